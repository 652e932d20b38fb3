/- Contracts by content: the program's Event. No statement is proved here. -/
import Derived.Test.YtpkolkfglgalpaaK2
import Derived.Test.YtpkolkfglgalpaaJT
set_option linter.unusedVariables false
set_option linter.unusedSimpArgs false
namespace Go.Proofs.Ytpkolkfglgalpaa
open Go.Ab Go.Jo
attribute [local irreducible] AWP AOps EStep AQ PStep PRun PCall TCall VCall DStep TDies AWD DCall

theorem eventR_mark {l : List Int} (h12 : 12 ≤ l.length) (h212 : l.length ≤ 212) (hk : l.getD 2 0 = 1) (hall : (l.drop 12).all (fun n => inR n 0 255) = true) : eventR l = if evOk (rawEv l) then (rawEv l, 0) else (noEv, 7) := by
  cases ht : (l.drop 12).all (fun n => inR n 32 126) with
  | true =>
    refine eventR_ok ?_
    unfold formOk
    rw [if_pos hk, ht]; simp; omega
  | false =>
    rw [eventR_form (by unfold formOk; rw [if_pos hk, ht]; simp), if_neg]
    intro he
    have hkk : (rawEv l).kind = 1 := by unfold rawEv; rw [if_pos hk]
    have htx : textOk (untxt (l.drop 12)) = true := by
      have h1 : (rawEv l).mark.text = untxt (l.drop 12) := by unfold rawEv; rw [if_pos hk]
      unfold evOk at he
      rw [if_pos hkk] at he
      simp only [Bool.and_eq_true, markOk] at he
      rw [← h1]; exact he.2.1.1.1.1.1.1.1.1
    have h2 := (textOk_iff.1 htx).2
    have : (l.drop 12).all (fun n => inR n 32 126) = true := List.all_eq_true.2 fun n hn => by
      have h3 := h2 (UInt8.ofNat n.toNat) (List.mem_map.2 ⟨n, hn, rfl⟩)
      have h4 := inR_iff.1 (List.all_eq_true.1 hall n hn)
      rw [UInt8.toNat_ofNat'] at h3
      exact inR_iff.2 (by omega)
    rw [this] at ht; cases ht
theorem rawEv_mark {l : List Int} (hk : l.getD 2 0 = 1) : rawEv l = ⟨l.getD 0 0, l.getD 1 0, l.getD 2 0, 0, mkT (l.drop 3)⟩ := by
  unfold rawEv mkT
  rw [if_pos hk, hk]
  simp [List.getD, List.getElem?_drop]
theorem form_short {l : List Int} (h : l.length < 4 ∨ 212 < l.length) : formOk l = false := by
  unfold formOk
  rcases h with h | h
  · rw [show decide (4 ≤ l.length) = false by simp; omega]; rfl
  · rw [show decide (l.length ≤ 212) = false by simp; omega]; simp
theorem retEC {env : Env} {s : Store} {a b : AV} {p q : AV} (h2 : env 2 = p) (h3 : env 3 = q)
    (ha : rvA tab (fun _ => p) s (.cell 2 27) = some a) (hb : rvA tab (fun _ => q) s (.cell 3 32) = some b) :
    retS tab env s [.cell 2 27, .cell 3 32] = some (.tup [a, b]) := by
  subst h2; subst h3
  have e2 : rvA tab env s (.cell 2 27) = some a := ha
  have e3 : rvA tab env s (.cell 3 32) = some b := hb
  simp only [retS, rvsA, e2, e3, Option.map]
abbrev tupE (r : Ev × Int) : AV := .tup [.agg (encE r.1), .int r.2]
set_option maxHeartbeats 3200000 in
set_option maxRecDepth 20000 in
theorem event_spec (l : List Int) (hl : l.length ≤ 1000000) : PCall Try.prog 15 [.sl 1 (l.map encN) .no] (tupE (eventR l)) := by
  have hpan4 : ∀ (e : Ev) (x : Int) (r : List AV) (X3 : AObj) (env : Env), okObj 4 (.var r) = true → okObj 4 X3 = true → env 2 = .ptr 0 0 → env 3 = .ptr 1 0 → eventR l = (noEv, 7) → ∃ u0, modeOf (.panic brkJ) = some u0 ∧ DCall Try.prog 29 [.ptr 0 0, .ptr 1 0] [.var (encE e), .var [.int x], .var r, X3] u0 (fun u' s' => settle u' = .returning ∧ ∃ u, retS tab env s' Try.f15.results.toList = some u ∧ Ent u (tupE (eventR l))) := fun e x r X3 env hr hX3 h2 h3 hg => by
    refine ⟨.panicking brkJ, rfl, DCall.mono (ev1_pan4 e x r X3 (by simp only [List.all_cons, hr, hX3]; rfl)) ?_⟩
    rintro _ _ ⟨rfl, rfl⟩
    exact ⟨rfl, tupE (noEv, 7), retEC h2 h3 rfl rfl, by rw [hg]; exact Ent.rfl' _⟩
  have hpan5 : ∀ (e : Ev) (x : Int) (r : List AV) (X3 X4 : AObj) (env : Env), okObj 5 (.var r) = true → okObj 5 X3 = true → okObj 5 X4 = true → env 2 = .ptr 0 0 → env 3 = .ptr 1 0 → eventR l = (noEv, 7) → ∃ u0, modeOf (.panic brkJ) = some u0 ∧ DCall Try.prog 29 [.ptr 0 0, .ptr 1 0] [.var (encE e), .var [.int x], .var r, X3, X4] u0 (fun u' s' => settle u' = .returning ∧ ∃ u, retS tab env s' Try.f15.results.toList = some u ∧ Ent u (tupE (eventR l))) := fun e x r X3 X4 env hr hX3 hX4 h2 h3 hg => by
    refine ⟨.panicking brkJ, rfl, DCall.mono (ev1_pan5 e x r X3 X4 (by simp only [List.all_cons, hr, hX3, hX4]; rfl)) ?_⟩
    rintro _ _ ⟨rfl, rfl⟩
    exact ⟨rfl, tupE (noEv, 7), retEC h2 h3 rfl rfl, by rw [hg]; exact Ent.rfl' _⟩
  have hret : ∀ (e : Ev) (τ : Store) (env : Env), List.all (AObj.var (encE e) :: .var [.int 0] :: τ) (okObj (τ.length + 2)) = true → env 2 = .ptr 0 0 → env 3 = .ptr 1 0 → eventR l = (e, 0) → ∃ u0, modeOf .ret = some u0 ∧ DCall Try.prog 29 [.ptr 0 0, .ptr 1 0] (.var (encE e) :: .var [.int 0] :: τ) u0 (fun u' s' => settle u' = .returning ∧ ∃ u, retS tab env s' Try.f15.results.toList = some u ∧ Ent u (tupE (eventR l))) := fun e τ env hok h2 h3 hg => by
    refine ⟨.returning, rfl, DCall.mono (ev1_ret _ hok) ?_⟩
    rintro _ _ ⟨rfl, rfl⟩
    exact ⟨rfl, tupE (e, 0), retEC h2 h3 rfl rfl, by rw [hg]; exact Ent.rfl' _⟩
  refine PCall.bodyD tabOk Try.func15 rfl rfl Try.ntmps15 rfl ?_
  refine AWD.seq (AWD.awp ?_)
  repeat' (first
    | refine AOps.q rfl rfl rfl (fun hg => by first | exact std0 | exact std1) (by exact rfl) ?_
    | refine AWP.seq ?_
    | refine AWP.regionK (fun K' hK => ?_)
    | (refine AOps.nil (hK _ _ ?_); clear hK K')
    | refine AOps.e (EStep.boxW rfl rfl rfl rfl rfl True.intro rfl rfl ?_)
    | refine AOps.e (EStep.storeW tabOk rfl rfl rfl True.intro rfl rfl True.intro rfl rfl rfl rfl rfl rfl rfl ?_)
    | refine AOps.e (EStep.allocW tabOk rfl rfl rfl rfl rfl rfl ?_)
    | (refine AWP.condW rfl True.intro (fun hc => ?_) (fun hc => ?_) <;> (first | (simp only [decide_eq_true_eq] at hc) | (simp only [decide_eq_false_iff_not, Int.not_lt, Int.not_le] at hc) | skip))
    | refine AWP.block ?_
    | refine AWP.exit ?_
    | refine AWP.skip ?_
    | refine AWP.ret ?_
    | refine AWP.drawK2 (by decide +kernel) (by kernel_rfl) (by decide +kernel) rfl (fun K' hK => ?_)
    | refine AWP.drawL2 (by kernel_rfl) (by decide +kernel) rfl (fun K' hK => ?_)
    | (refine AQ.nil (hK _ ?_); clear hK K')
    | refine AQ.nil ?_
    | refine AQ.q rfl rfl (fun hg => by first | exact std0 | exact std1) (by exact rfl) ?_)
  refine AWD.seq (AWD.awp ?_)
  repeat' (first
    | refine AOps.q rfl rfl rfl (fun hg => by first | exact std0 | exact PRun.buildW tabOk rfl rfl nds | exact std1) (by exact rfl) ?_
    | refine AWP.seq ?_
    | refine AWP.regionK (fun K' hK => ?_)
    | (refine AOps.nil (hK _ _ ?_); clear hK K')
    | refine AOps.e (EStep.boxW rfl rfl rfl rfl rfl True.intro rfl rfl ?_)
    | refine AOps.e (EStep.storeW tabOk rfl rfl rfl True.intro rfl rfl True.intro rfl rfl rfl rfl rfl rfl rfl ?_)
    | refine AOps.e (EStep.allocW tabOk rfl rfl rfl rfl rfl rfl ?_)
    | (refine AWP.condW rfl True.intro (fun hc => ?_) (fun hc => ?_) <;> (first | (simp only [decide_eq_true_eq] at hc) | (simp only [decide_eq_false_iff_not, Int.not_lt, Int.not_le] at hc) | skip))
    | refine AWP.block ?_
    | refine AWP.exit ?_
    | refine AWP.skip ?_
    | refine AWP.ret ?_
    | refine AWP.drawK2 (by decide +kernel) (by kernel_rfl) (by decide +kernel) rfl (fun K' hK => ?_)
    | refine AWP.drawL2 (by kernel_rfl) (by decide +kernel) rfl (fun K' hK => ?_)
    | (refine AQ.nil (hK _ ?_); clear hK K')
    | refine AQ.nil ?_
    | refine AQ.q rfl rfl (fun hg => by first | exact std0 | exact PRun.buildW tabOk rfl rfl nds | exact std1) (by exact rfl) ?_)
  · exact ⟨.inr rfl, _, rfl, by rw [eventR_form (form_short (by omega))]; exact Ent.rfl' _⟩
  refine AWD.seq (AWD.defer 1 rfl (fun K' hK => ?_))
  repeat' (first
    | refine AOps.q rfl rfl rfl (fun hg => by first | exact std0 | exact std1) (by exact rfl) ?_
    | refine AWP.seq ?_
    | refine AWP.regionK (fun K' hK => ?_)
    | (refine AOps.nil (hK _ _ ?_); clear hK K')
    | refine AOps.e (EStep.boxW rfl rfl rfl rfl rfl True.intro rfl rfl ?_)
    | refine AOps.e (EStep.storeW tabOk rfl rfl rfl True.intro rfl rfl True.intro rfl rfl rfl rfl rfl rfl rfl ?_)
    | refine AOps.e (EStep.allocW tabOk rfl rfl rfl rfl rfl rfl ?_)
    | (refine AWP.condW rfl True.intro (fun hc => ?_) (fun hc => ?_) <;> (first | (simp only [decide_eq_true_eq] at hc) | (simp only [decide_eq_false_iff_not, Int.not_lt, Int.not_le] at hc) | skip))
    | refine AWP.block ?_
    | refine AWP.exit ?_
    | refine AWP.skip ?_
    | refine AWP.ret ?_
    | refine AWP.drawK2 (by decide +kernel) (by kernel_rfl) (by decide +kernel) rfl (fun K' hK => ?_)
    | refine AWP.drawL2 (by kernel_rfl) (by decide +kernel) rfl (fun K' hK => ?_)
    | (refine AQ.nil (hK _ ?_); clear hK K')
    | refine AQ.nil ?_
    | refine AQ.q rfl rfl (fun hg => by first | exact std0 | exact std1) (by exact rfl) ?_)
  refine ⟨29, [], [.ptr 0 0, .ptr 1 0], [], _, _, _, rfl, rfl, rfl, rfl, True.intro, rfl, True.intro, ?_⟩
  refine AWD.seq (AWD.awp ?_)
  repeat' (first
    | refine AOps.q rfl rfl rfl (fun hg => by first | exact std0 | exact PRun.buildW tabOk rfl rfl nds | exact std1) (by exact rfl) ?_
    | refine AWP.seq ?_
    | refine AWP.regionK (fun K' hK => ?_)
    | (refine AOps.nil (hK _ _ ?_); clear hK K')
    | refine AOps.e (EStep.boxW rfl rfl rfl rfl rfl True.intro rfl rfl ?_)
    | refine AOps.e (EStep.storeW tabOk rfl rfl rfl True.intro rfl rfl True.intro rfl rfl rfl rfl rfl rfl rfl ?_)
    | refine AOps.e (EStep.allocW tabOk rfl rfl rfl rfl rfl rfl ?_)
    | (refine AWP.condW rfl True.intro (fun hc => ?_) (fun hc => ?_) <;> (first | (simp only [decide_eq_true_eq] at hc) | (simp only [decide_eq_false_iff_not, Int.not_lt, Int.not_le] at hc) | skip))
    | refine AWP.block ?_
    | refine AWP.exit ?_
    | refine AWP.skip ?_
    | refine AWP.ret ?_
    | refine AWP.drawK2 (by decide +kernel) (by kernel_rfl) (by decide +kernel) rfl (fun K' hK => ?_)
    | refine AWP.drawL2 (by kernel_rfl) (by decide +kernel) rfl (fun K' hK => ?_)
    | (refine AQ.nil (hK _ ?_); clear hK K')
    | refine AQ.nil ?_
    | refine AQ.q rfl rfl (fun hg => by first | exact std0 | exact PRun.buildW tabOk rfl rfl nds | exact std1) (by exact rfl) ?_)
  refine AWD.awp ?_
  refine AWP.keep [(2, .ptr 0 0), (3, .ptr 1 0), (4, .ptr 2 0)] ⟨rfl, rfl, rfl, True.intro⟩ ?_
  by_cases h3 : l.length < 3
  · have hd := take3_D l h3
    have hg := eventR_form (form_short (l := l) (by omega))
    refine AWP.seq (AWP.regionP 5 rfl (fun K' hK => ?_))
    repeat' (first
      | refine AOps.q rfl rfl rfl (fun hg => by first | exact std0 | exact std1) (by exact rfl) ?_
      | refine AWP.seq ?_
      | refine AWP.regionK (fun K' hK => ?_)
      | (refine AOps.nil (hK _ _ ?_); clear hK K')
      | refine AOps.e (EStep.boxW rfl rfl rfl rfl rfl True.intro rfl rfl ?_)
      | refine AOps.e (EStep.storeW tabOk rfl rfl rfl True.intro rfl rfl True.intro rfl rfl rfl rfl rfl rfl rfl ?_)
      | refine AOps.e (EStep.allocW tabOk rfl rfl rfl rfl rfl rfl ?_)
      | refine AOps.e (EStep.buildArr (sz := 1) (es := ps3) tabOk rfl rfl rfl rfl (by kernel_rfl) ⟨True.intro, True.intro, True.intro, True.intro⟩ ?_)
      | (refine AWP.condW rfl True.intro (fun hc => ?_) (fun hc => ?_) <;> (first | (simp only [decide_eq_true_eq] at hc) | (simp only [decide_eq_false_iff_not, Int.not_lt, Int.not_le] at hc) | skip))
      | refine AWP.block ?_
      | refine AWP.exit ?_
      | refine AWP.skip ?_
      | refine AWP.ret ?_
      | refine AWP.drawK2 (by decide +kernel) (by kernel_rfl) (by decide +kernel) rfl (fun K' hK => ?_)
      | refine AWP.drawL2 (by kernel_rfl) (by decide +kernel) rfl (fun K' hK => ?_)
      | (refine AQ.nil (hK _ ?_); clear hK K')
      | refine AQ.nil ?_
      | refine AQ.q rfl rfl (fun hg => by first | exact std0 | exact std1) (by exact rfl) ?_)
    refine DStep.call (first := []) (caps := []) hd rfl rfl rfl True.intro rfl ⟨True.intro, True.intro, True.intro⟩ ?_
    rintro _ rfl
    exact hpan4 noEv 0 _ _ _ rfl rfl (by rfl) (by rfl) hg
  have hv := TCall.val (first := []) (caps := []) (avs := [.ptr 2 0, .sla 3 1 0 3 0]) (take3_T l (by omega) hl)
  repeat' (first
    | refine AOps.q rfl rfl rfl (fun hg => by first | exact std0 | exact std1) (by exact rfl) ?_
    | refine AWP.seq ?_
    | refine AWP.regionK (fun K' hK => ?_)
    | (refine AOps.nil (hK _ _ ?_); clear hK K')
    | refine AOps.e (EStep.boxW rfl rfl rfl rfl rfl True.intro rfl rfl ?_)
    | refine AOps.e (EStep.storeW tabOk rfl rfl rfl True.intro rfl rfl True.intro rfl rfl rfl rfl rfl rfl rfl ?_)
    | refine AOps.e (EStep.allocW tabOk rfl rfl rfl rfl rfl rfl ?_)
    | refine AOps.e (EStep.callT (hv) rfl rfl rfl rfl rfl nd rfl rfl nds ?_)
    | refine AOps.e (EStep.buildArr (sz := 1) (es := ps3) tabOk rfl rfl rfl rfl (by kernel_rfl) ⟨True.intro, True.intro, True.intro, True.intro⟩ ?_)
    | (refine AWP.condW rfl True.intro (fun hc => ?_) (fun hc => ?_) <;> (first | (simp only [decide_eq_true_eq] at hc) | (simp only [decide_eq_false_iff_not, Int.not_lt, Int.not_le] at hc) | skip))
    | refine AWP.block ?_
    | refine AWP.exit ?_
    | refine AWP.skip ?_
    | refine AWP.ret ?_
    | refine AWP.drawK2 (by decide +kernel) (by kernel_rfl) (by decide +kernel) rfl (fun K' hK => ?_)
    | refine AWP.drawL2 (by kernel_rfl) (by decide +kernel) rfl (fun K' hK => ?_)
    | (refine AQ.nil (hK _ ?_); clear hK K')
    | refine AQ.nil ?_
    | refine AQ.q rfl rfl (fun hg => by first | exact std0 | exact std1) (by exact rfl) ?_)
  rintro _ _ ⟨rfl, rfl⟩
  refine AOps.nil (hK _ _ ?_)
  clear hK K' hv
  refine AWP.keep [(2, .ptr 0 0), (3, .ptr 1 0), (4, .ptr 2 0)] ⟨rfl, rfl, rfl, True.intro⟩ ?_
  refine AWP.seq (AWP.seq (AWP.regionK (fun K' hK => ?_)))
  repeat' (refine AOps.q rfl rfl rfl (fun hg => by first | exact std0 | exact std1) (by exact rfl) ?_)
  refine AOps.nil (hK _ _ ?_)
  clear hK K'
  refine AWP.condW rfl True.intro (fun hc => ?_) (fun hc => ?_)
  · have hk : l.getD 2 0 = 1 := eq_of_beq hc
    clear hc
    by_cases h12 : l.length < 12
    · have hg : eventR l = (noEv, 7) := eventR_form (by unfold formOk; rw [if_pos hk]; simp; omega)
      have hd := read_D0 (ev3 l 3) (l.drop 3) (by rw [List.length_drop]; omega)
      refine AWP.seq (AWP.regionP 1 rfl (fun K' hK => ?_))
      repeat' (refine AOps.q rfl rfl rfl (fun hg => by first | exact std0 | exact std1) (by exact rfl) ?_)
      refine AOps.nil (hK _ _ (DStep.call (first := []) (caps := []) hd rfl rfl rfl True.intro rfl ⟨True.intro, True.intro⟩ ?_))
      rintro _ ⟨m, r, rfl⟩
      exact hpan4 (ev3 l 3) 0 _ _ _ rfl rfl (by rfl) (by rfl) hg
    cases hall : (l.drop 12).all (fun n => inR n 0 255) with
    | false =>
      have hg : eventR l = (noEv, 7) := eventR_form (by
        unfold formOk
        rw [if_pos hk]
        have : (l.drop 12).all (fun n => inR n 32 126) = false := by
          cases h : (l.drop 12).all (fun n => inR n 32 126) with
          | false => rfl
          | true =>
            rw [List.all_eq_true.2 fun n hn => by have := inR_iff.1 (List.all_eq_true.1 h n hn); exact inR_iff.2 (by omega)] at hall
            cases hall
        rw [this]; simp)
      have hd := read_D1 (ev3 l 3) (l.drop 3) (by rw [List.length_drop]; omega) (by rw [List.length_drop]; omega) (by rw [List.drop_drop]; exact hall)
      refine AWP.seq (AWP.regionP 1 rfl (fun K' hK => ?_))
      repeat' (refine AOps.q rfl rfl rfl (fun hg => by first | exact std0 | exact std1) (by exact rfl) ?_)
      refine AOps.nil (hK _ _ (DStep.call (first := []) (caps := []) hd rfl rfl rfl True.intro rfl ⟨True.intro, True.intro⟩ ?_))
      rintro _ ⟨m, r, rfl⟩
      exact hpan4 (ev3 l 3) 0 _ _ _ rfl rfl (by rfl) (by rfl) hg
    | true =>
      have hg := eventR_mark (l := l) (by omega) (by omega) hk hall
      rw [rawEv_mark hk] at hg
      have hv := TCall.val (first := []) (caps := []) (avs := [.ptr 2 0]) (read_T (ev3 l 3) (l.drop 3) (by rw [List.length_drop]; omega) (by rw [List.length_drop]; omega) (by rw [List.drop_drop]; exact hall))
      have hw := right_spec ⟨l.getD 0 0, l.getD 1 0, l.getD 2 0, 0, mkT (l.drop 3)⟩ (by simp [mkT, untxt]; omega)
      repeat' (first
        | refine AOps.q rfl rfl rfl (fun hg => by first | exact std0 | exact std1) (by exact rfl) ?_
        | refine AWP.seq ?_
        | refine AWP.regionK (fun K' hK => ?_)
        | (refine AOps.nil (hK _ _ ?_); clear hK K')
        | refine AOps.e (EStep.boxW rfl rfl rfl rfl rfl True.intro rfl rfl ?_)
        | refine AOps.e (EStep.storeW tabOk rfl rfl rfl True.intro rfl rfl True.intro rfl rfl rfl rfl rfl rfl rfl ?_)
        | refine AOps.e (EStep.allocW tabOk rfl rfl rfl rfl rfl rfl ?_)
        | refine AOps.e (EStep.callT (hv) rfl rfl rfl rfl rfl nd rfl rfl nds ?_)
        | (refine AWP.condW rfl True.intro (fun hc => ?_) (fun hc => ?_) <;> (first | (simp only [decide_eq_true_eq] at hc) | (simp only [decide_eq_false_iff_not, Int.not_lt, Int.not_le] at hc) | skip))
        | refine AWP.block ?_
        | refine AWP.exit ?_
        | refine AWP.skip ?_
        | refine AWP.ret ?_
        | refine AWP.drawK2 (by decide +kernel) (by kernel_rfl) (by decide +kernel) rfl (fun K' hK => ?_)
        | refine AWP.drawL2 (by kernel_rfl) (by decide +kernel) rfl (fun K' hK => ?_)
        | (refine AQ.nil (hK _ ?_); clear hK K')
        | refine AQ.nil ?_
        | refine AQ.q rfl rfl (fun hg => by first | exact std0 | exact std1) (by exact rfl) ?_)
      rintro _ _ ⟨rfl, rfl⟩
      refine AOps.nil (hK _ _ ?_)
      clear hK K' hv
      cases hok : evOk ⟨l.getD 0 0, l.getD 1 0, l.getD 2 0, 0, mkT (l.drop 3)⟩ with
      | true =>
        rw [hok] at hw
        rw [hok, if_pos rfl] at hg
        repeat' (first
          | refine AWP.regionPan rfl rfl (fun K' hK => ?_)
          | refine AOps.q rfl rfl rfl (fun hg => by first | exact std0 | exact PRun.callW (hw) rfl rfl nd rfl nds | exact PRun.buildZ (by exact ⟨rfl, rfl⟩) rfl | exact PRun.ifaceW (by kernel_rfl) rfl rfl nd rfl | exact PRun.buildW tabOk rfl rfl nds | exact std1) (by exact rfl) ?_
          | refine AWP.seq ?_
          | refine AWP.regionK (fun K' hK => ?_)
          | (refine AOps.nil (hK _ _ ?_); clear hK K')
          | refine AOps.e (EStep.boxW rfl rfl rfl rfl rfl True.intro rfl rfl ?_)
          | refine AOps.e (EStep.storeW tabOk rfl rfl rfl True.intro rfl rfl True.intro rfl rfl rfl rfl rfl rfl rfl ?_)
          | refine AOps.e (EStep.allocW tabOk rfl rfl rfl rfl rfl rfl ?_)
          | refine DStep.panic rfl rfl rfl True.intro ?_
          | (refine AWP.condW rfl True.intro (fun hc => ?_) (fun hc => ?_) <;> (first | (simp only [decide_eq_true_eq] at hc) | (simp only [decide_eq_false_iff_not, Int.not_lt, Int.not_le] at hc) | skip))
          | refine AWP.block ?_
          | refine AWP.exit ?_
          | refine AWP.skip ?_
          | refine AWP.ret ?_
          | refine AWP.drawK2 (by decide +kernel) (by kernel_rfl) (by decide +kernel) rfl (fun K' hK => ?_)
          | refine AWP.drawL2 (by kernel_rfl) (by decide +kernel) rfl (fun K' hK => ?_)
          | (refine AQ.nil (hK _ ?_); clear hK K')
          | refine AQ.nil ?_
          | refine AQ.q rfl rfl (fun hg => by first | exact std0 | exact PRun.callW (hw) rfl rfl nd rfl nds | exact PRun.buildZ (by exact ⟨rfl, rfl⟩) rfl | exact PRun.ifaceW (by kernel_rfl) rfl rfl nd rfl | exact PRun.buildW tabOk rfl rfl nds | exact std1) (by exact rfl) ?_)
        · exfalso; simp at hc
        · refine hret ⟨l.getD 0 0, l.getD 1 0, l.getD 2 0, 0, mkT (l.drop 3)⟩ [.var (Go.Proofs.Ytpkolkfglgalpaa.encM (mkT (l.drop 3)) ++ [.nils]), .arr 1 0 ps3] _ rfl ?_ ?_ hg <;> rfl
      | false =>
        rw [hok] at hw
        rw [hok, if_neg (by simp)] at hg
        repeat' (first
          | refine AWP.regionPan rfl rfl (fun K' hK => ?_)
          | refine AOps.q rfl rfl rfl (fun hg => by first | exact std0 | exact PRun.callW (hw) rfl rfl nd rfl nds | exact PRun.buildZ (by exact ⟨rfl, rfl⟩) rfl | exact PRun.ifaceW (by kernel_rfl) rfl rfl nd rfl | exact PRun.buildW tabOk rfl rfl nds | exact std1) (by exact rfl) ?_
          | refine AWP.seq ?_
          | refine AWP.regionK (fun K' hK => ?_)
          | (refine AOps.nil (hK _ _ ?_); clear hK K')
          | refine AOps.e (EStep.boxW rfl rfl rfl rfl rfl True.intro rfl rfl ?_)
          | refine AOps.e (EStep.storeW tabOk rfl rfl rfl True.intro rfl rfl True.intro rfl rfl rfl rfl rfl rfl rfl ?_)
          | refine AOps.e (EStep.allocW tabOk rfl rfl rfl rfl rfl rfl ?_)
          | refine DStep.panic rfl rfl rfl True.intro ?_
          | (refine AWP.condW rfl True.intro (fun hc => ?_) (fun hc => ?_) <;> (first | (simp only [decide_eq_true_eq] at hc) | (simp only [decide_eq_false_iff_not, Int.not_lt, Int.not_le] at hc) | skip))
          | refine AWP.block ?_
          | refine AWP.exit ?_
          | refine AWP.skip ?_
          | refine AWP.ret ?_
          | refine AWP.drawK2 (by decide +kernel) (by kernel_rfl) (by decide +kernel) rfl (fun K' hK => ?_)
          | refine AWP.drawL2 (by kernel_rfl) (by decide +kernel) rfl (fun K' hK => ?_)
          | (refine AQ.nil (hK _ ?_); clear hK K')
          | refine AQ.nil ?_
          | refine AQ.q rfl rfl (fun hg => by first | exact std0 | exact PRun.callW (hw) rfl rfl nd rfl nds | exact PRun.buildZ (by exact ⟨rfl, rfl⟩) rfl | exact PRun.ifaceW (by kernel_rfl) rfl rfl nd rfl | exact PRun.buildW tabOk rfl rfl nds | exact std1) (by exact rfl) ?_)
        · refine hpan4 ⟨l.getD 0 0, l.getD 1 0, l.getD 2 0, 0, mkT (l.drop 3)⟩ 0 (Go.Proofs.Ytpkolkfglgalpaa.encM (mkT (l.drop 3)) ++ [.nils]) (.arr 1 0 ps3) _ rfl rfl ?_ ?_ hg <;> rfl
        · exfalso; simp at hc
  · have hk : l.getD 2 0 ≠ 1 := by
      intro h
      have : (l.getD 2 0 == 1) = true := by rw [h]; rfl
      rw [show (l.getD 2 0 == 1) = false from hc] at this; cases this
    clear hc
    by_cases h4 : l.length < 4
    · have hg := eventR_form (form_short (l := l) (by omega))
      have hd := take1_D (ev3 l 3) (l.drop 3) (by rw [List.length_drop]; omega)
      refine (AWP.regionP 3 rfl (fun K' hK => ?_))
      repeat' (first
        | refine AOps.q rfl rfl rfl (fun hg => by first | exact std0 | exact std1) (by exact rfl) ?_
        | refine AWP.seq ?_
        | refine AWP.regionK (fun K' hK => ?_)
        | (refine AOps.nil (hK _ _ ?_); clear hK K')
        | refine AOps.e (EStep.boxW rfl rfl rfl rfl rfl True.intro rfl rfl ?_)
        | refine AOps.e (EStep.storeW tabOk rfl rfl rfl True.intro rfl rfl True.intro rfl rfl rfl rfl rfl rfl rfl ?_)
        | refine AOps.e (EStep.allocW tabOk rfl rfl rfl rfl rfl rfl ?_)
        | refine AOps.e (EStep.buildArr (sz := 1) (es := ps1) tabOk rfl rfl rfl rfl (by kernel_rfl) ⟨True.intro, True.intro⟩ ?_)
        | (refine AWP.condW rfl True.intro (fun hc => ?_) (fun hc => ?_) <;> (first | (simp only [decide_eq_true_eq] at hc) | (simp only [decide_eq_false_iff_not, Int.not_lt, Int.not_le] at hc) | skip))
        | refine AWP.block ?_
        | refine AWP.exit ?_
        | refine AWP.skip ?_
        | refine AWP.ret ?_
        | refine AWP.drawK2 (by decide +kernel) (by kernel_rfl) (by decide +kernel) rfl (fun K' hK => ?_)
        | refine AWP.drawL2 (by kernel_rfl) (by decide +kernel) rfl (fun K' hK => ?_)
        | (refine AQ.nil (hK _ ?_); clear hK K')
        | refine AQ.nil ?_
        | refine AQ.q rfl rfl (fun hg => by first | exact std0 | exact std1) (by exact rfl) ?_)
      refine DStep.call (first := []) (caps := []) hd rfl rfl rfl True.intro rfl ⟨True.intro, True.intro, True.intro⟩ ?_
      rintro _ rfl
      refine hpan5 (ev3 l 3) 0 (encR noMark (l.drop 3)) (.arr 1 0 ps3) (.arr 1 0 ps1) _ rfl rfl rfl ?_ ?_ hg <;> rfl
    have hv := TCall.val (first := []) (caps := []) (avs := [.ptr 2 0, .sla 4 1 0 1 0]) (take1_T (ev3 l 3) (l.drop 3) (by rw [List.length_drop]; omega) (by rw [List.length_drop]; omega))
    have hw := right_spec (evN (ev3 l 3) (l.drop 3) 1) (by simp [evN, ev3, noMark])
    have hE : rawEv l = evN (ev3 l 3) (l.drop 3) 1 := by
      unfold rawEv
      rw [if_neg hk]
      simp [evN, ev3, List.getD, List.getElem?_drop]
    repeat' (first
      | refine AOps.q rfl rfl rfl (fun hg => by first | exact std0 | exact std1) (by exact rfl) ?_
      | refine AWP.seq ?_
      | refine AWP.regionK (fun K' hK => ?_)
      | (refine AOps.nil (hK _ _ ?_); clear hK K')
      | refine AOps.e (EStep.boxW rfl rfl rfl rfl rfl True.intro rfl rfl ?_)
      | refine AOps.e (EStep.storeW tabOk rfl rfl rfl True.intro rfl rfl True.intro rfl rfl rfl rfl rfl rfl rfl ?_)
      | refine AOps.e (EStep.allocW tabOk rfl rfl rfl rfl rfl rfl ?_)
      | refine AOps.e (EStep.callT (hv) rfl rfl rfl rfl rfl nd rfl rfl nds ?_)
      | refine AOps.e (EStep.buildArr (sz := 1) (es := ps1) tabOk rfl rfl rfl rfl (by kernel_rfl) ⟨True.intro, True.intro⟩ ?_)
      | (refine AWP.condW rfl True.intro (fun hc => ?_) (fun hc => ?_) <;> (first | (simp only [decide_eq_true_eq] at hc) | (simp only [decide_eq_false_iff_not, Int.not_lt, Int.not_le] at hc) | skip))
      | refine AWP.block ?_
      | refine AWP.exit ?_
      | refine AWP.skip ?_
      | refine AWP.ret ?_
      | refine AWP.drawK2 (by decide +kernel) (by kernel_rfl) (by decide +kernel) rfl (fun K' hK => ?_)
      | refine AWP.drawL2 (by kernel_rfl) (by decide +kernel) rfl (fun K' hK => ?_)
      | (refine AQ.nil (hK _ ?_); clear hK K')
      | refine AQ.nil ?_
      | refine AQ.q rfl rfl (fun hg => by first | exact std0 | exact std1) (by exact rfl) ?_)
    rintro _ _ ⟨rfl, rfl⟩
    refine AOps.nil (hK _ _ ?_)
    clear hK K' hv
    have hl1 : ((l.drop 3).drop 1).length = l.length - 4 := by rw [List.length_drop, List.length_drop]; omega
    by_cases h44 : l.length = 4
    · have hf : formOk l = true := by unfold formOk; rw [if_neg hk]; simp; omega
      have hg := eventR_ok hf
      rw [hE] at hg
      cases hok : evOk (evN (ev3 l 3) (l.drop 3) 1) with
      | true =>
        rw [hok] at hw
        rw [hok, if_pos rfl] at hg
        repeat' (first
          | refine AWP.regionPan rfl rfl (fun K' hK => ?_)
          | refine AOps.q rfl rfl rfl (fun hg => by first | exact std0 | exact PRun.callW (hw) rfl rfl nd rfl nds | exact PRun.buildZ (by exact ⟨rfl, rfl⟩) rfl | exact PRun.ifaceW (by kernel_rfl) rfl rfl nd rfl | exact PRun.buildW tabOk rfl rfl nds | exact std1) (by exact rfl) ?_
          | refine AWP.seq ?_
          | refine AWP.regionK (fun K' hK => ?_)
          | (refine AOps.nil (hK _ _ ?_); clear hK K')
          | refine AOps.e (EStep.boxW rfl rfl rfl rfl rfl True.intro rfl rfl ?_)
          | refine AOps.e (EStep.storeW tabOk rfl rfl rfl True.intro rfl rfl True.intro rfl rfl rfl rfl rfl rfl rfl ?_)
          | refine AOps.e (EStep.allocW tabOk rfl rfl rfl rfl rfl rfl ?_)
          | refine DStep.panic rfl rfl rfl True.intro ?_
          | (refine AWP.condW rfl True.intro (fun hc => ?_) (fun hc => ?_) <;> (first | (simp only [decide_eq_true_eq] at hc) | (simp only [decide_eq_false_iff_not, Int.not_lt, Int.not_le] at hc) | skip))
          | refine AWP.block ?_
          | refine AWP.exit ?_
          | refine AWP.skip ?_
          | refine AWP.ret ?_
          | refine AWP.drawK2 (by decide +kernel) (by kernel_rfl) (by decide +kernel) rfl (fun K' hK => ?_)
          | refine AWP.drawL2 (by kernel_rfl) (by decide +kernel) rfl (fun K' hK => ?_)
          | (refine AQ.nil (hK _ ?_); clear hK K')
          | refine AQ.nil ?_
          | refine AQ.q rfl rfl (fun hg => by first | exact std0 | exact PRun.callW (hw) rfl rfl nd rfl nds | exact PRun.buildZ (by exact ⟨rfl, rfl⟩) rfl | exact PRun.ifaceW (by kernel_rfl) rfl rfl nd rfl | exact PRun.buildW tabOk rfl rfl nds | exact std1) (by exact rfl) ?_)
        · exfalso; rw [hl1] at hc; simp at hc; omega
        · refine hret (evN (ev3 l 3) (l.drop 3) 1) [.var (encR noMark ((l.drop 3).drop 1)), .arr 1 0 ps3, .arr 1 0 ps1] _ rfl ?_ ?_ hg <;> rfl
      | false =>
        rw [hok] at hw
        rw [hok, if_neg (by simp)] at hg
        repeat' (first
          | refine AWP.regionPan rfl rfl (fun K' hK => ?_)
          | refine AOps.q rfl rfl rfl (fun hg => by first | exact std0 | exact PRun.callW (hw) rfl rfl nd rfl nds | exact PRun.buildZ (by exact ⟨rfl, rfl⟩) rfl | exact PRun.ifaceW (by kernel_rfl) rfl rfl nd rfl | exact PRun.buildW tabOk rfl rfl nds | exact std1) (by exact rfl) ?_
          | refine AWP.seq ?_
          | refine AWP.regionK (fun K' hK => ?_)
          | (refine AOps.nil (hK _ _ ?_); clear hK K')
          | refine AOps.e (EStep.boxW rfl rfl rfl rfl rfl True.intro rfl rfl ?_)
          | refine AOps.e (EStep.storeW tabOk rfl rfl rfl True.intro rfl rfl True.intro rfl rfl rfl rfl rfl rfl rfl ?_)
          | refine AOps.e (EStep.allocW tabOk rfl rfl rfl rfl rfl rfl ?_)
          | refine DStep.panic rfl rfl rfl True.intro ?_
          | (refine AWP.condW rfl True.intro (fun hc => ?_) (fun hc => ?_) <;> (first | (simp only [decide_eq_true_eq] at hc) | (simp only [decide_eq_false_iff_not, Int.not_lt, Int.not_le] at hc) | skip))
          | refine AWP.block ?_
          | refine AWP.exit ?_
          | refine AWP.skip ?_
          | refine AWP.ret ?_
          | refine AWP.drawK2 (by decide +kernel) (by kernel_rfl) (by decide +kernel) rfl (fun K' hK => ?_)
          | refine AWP.drawL2 (by kernel_rfl) (by decide +kernel) rfl (fun K' hK => ?_)
          | (refine AQ.nil (hK _ ?_); clear hK K')
          | refine AQ.nil ?_
          | refine AQ.q rfl rfl (fun hg => by first | exact std0 | exact PRun.callW (hw) rfl rfl nd rfl nds | exact PRun.buildZ (by exact ⟨rfl, rfl⟩) rfl | exact PRun.ifaceW (by kernel_rfl) rfl rfl nd rfl | exact PRun.buildW tabOk rfl rfl nds | exact std1) (by exact rfl) ?_)
        · refine hpan5 (evN (ev3 l 3) (l.drop 3) 1) 0 (encR noMark ((l.drop 3).drop 1)) (.arr 1 0 ps3) (.arr 1 0 ps1) _ rfl rfl rfl ?_ ?_ hg <;> rfl
        · exfalso; simp at hc
    · have hg : eventR l = (noEv, 7) := eventR_form (by unfold formOk; rw [if_neg hk]; simp; omega)
      repeat' (first
        | refine AWP.regionPan rfl rfl (fun K' hK => ?_)
        | refine AOps.q rfl rfl rfl (fun hg => by first | exact std0 | exact PRun.callW (hw) rfl rfl nd rfl nds | exact PRun.buildZ (by exact ⟨rfl, rfl⟩) rfl | exact PRun.ifaceW (by kernel_rfl) rfl rfl nd rfl | exact PRun.buildW tabOk rfl rfl nds | exact std1) (by exact rfl) ?_
        | refine AWP.seq ?_
        | refine AWP.regionK (fun K' hK => ?_)
        | (refine AOps.nil (hK _ _ ?_); clear hK K')
        | refine AOps.e (EStep.boxW rfl rfl rfl rfl rfl True.intro rfl rfl ?_)
        | refine AOps.e (EStep.storeW tabOk rfl rfl rfl True.intro rfl rfl True.intro rfl rfl rfl rfl rfl rfl rfl ?_)
        | refine AOps.e (EStep.allocW tabOk rfl rfl rfl rfl rfl rfl ?_)
        | refine DStep.panic rfl rfl rfl True.intro ?_
        | (refine AWP.condW rfl True.intro (fun hc => ?_) (fun hc => ?_) <;> (first | (simp only [decide_eq_true_eq] at hc) | (simp only [decide_eq_false_iff_not, Int.not_lt, Int.not_le] at hc) | skip))
        | refine AWP.block ?_
        | refine AWP.exit ?_
        | refine AWP.skip ?_
        | refine AWP.ret ?_
        | refine AWP.drawK2 (by decide +kernel) (by kernel_rfl) (by decide +kernel) rfl (fun K' hK => ?_)
        | refine AWP.drawL2 (by kernel_rfl) (by decide +kernel) rfl (fun K' hK => ?_)
        | (refine AQ.nil (hK _ ?_); clear hK K')
        | refine AQ.nil ?_
        | refine AQ.q rfl rfl (fun hg => by first | exact std0 | exact PRun.callW (hw) rfl rfl nd rfl nds | exact PRun.buildZ (by exact ⟨rfl, rfl⟩) rfl | exact PRun.ifaceW (by kernel_rfl) rfl rfl nd rfl | exact PRun.buildW tabOk rfl rfl nds | exact std1) (by exact rfl) ?_)
      · refine hpan5 (evN (ev3 l 3) (l.drop 3) 1) 0 (encR noMark ((l.drop 3).drop 1)) (.arr 1 0 ps3) (.arr 1 0 ps1) _ rfl rfl rfl ?_ ?_ hg <;> rfl
      · exfalso; rw [hl1] at hc; simp at hc; omega
end Go.Proofs.Ytpkolkfglgalpaa
