/- Contracts by content: the reference's Of, Busy, Rests, SameSpans. No statement is proved here. -/
import Derived.Test.YtnmdmmfdnnmdfaaDoorNE
import Derived.Test.YtnmdmmfdnnmdfaaDoorNQ
import Derived.Test.YtnmdmmfdnnmdfaaDoorSP
set_option linter.unusedVariables false
set_option linter.unusedSimpArgs false
namespace Go.Ab
/-- A place in an array that does not change. -/
theorem PRun.indexArr {P : Program} {o : Oper} {env : Env} {σ : Store} {T : Tab} {cs : List AV} (hT : T.Ok P) {t e : TypeId} {x y : Operand} {m s1 b1 : Nat} {z : List Z} {k : IntKind} {i : Int} {le : LI} (ho : o.op = .indexAddr t x y) (hx : rdv env x = some (.iptr cs)) (nx : rdn env x)
    (hy : rdv env y = some (.prim (.int k i))) (ny : rdn env y) (hl : T.get t = some ⟨.arr m e, s1, b1, z⟩) (he : T.get e = some le) (h : 0 ≤ i ∧ i < m) : PRun P o env σ (.iptr (cs.drop (i.toNat * le.size))) :=
  .of fun G A w hs hv => by
    have hX := rd (Rd.w hx nx) (by simp [ho, Op.operands]) hv
    have hY := VRel.prim_eq (rd (Rd.w hy ny) (by simp [ho, Op.operands]) hv)
    generalize hA : A.eval x = v at hX
    obtain ⟨n, rfl⟩ := Int.eq_ofNat_of_zero_le h.1
    have hn : n < m := by omega
    cases hX with
    | iptr _ b off f hm' hr =>
      refine ⟨.pointer (some ⟨b, off + n * le.size, none⟩), ?_, ?_⟩
      · have hle := LOk.of (hT.get he)
        have hla := LOk.of (hT.get hl)
        simp only [execOp, ho, hA, hY, Instr.indexAt, asIntOf]
        simp [hla.arr w, hle.run_size w, addr_add, Instr.sureAddr, hn]
      · rw [Int.toNat_natCast]
        refine .iptr _ b _ (fun j => f (n * le.size + j)) (fun j hj => ?_) fun j c hj => ?_
        · simp only [List.length_drop] at hj
          rw [Nat.add_assoc]
          exact hm' _ (by omega)
        · rw [List.getElem?_drop] at hj
          exact hr _ _ hj
end Go.Ab
namespace Go.Proofs.YtnmdmmfdnnmdfaaDoor.Nt
open Go.Ab
attribute [local irreducible] AWP AOps EStep AQ PStep PRun PCall TCall VCall

set_option maxHeartbeats 4000000 in
set_option maxRecDepth 20000 in
theorem of7_spec (bars : List Bar) (l : List Note) (hb : bars.length ≤ 1000000000) (hl : l.length ≤ 1000000) (p b : Int) :
    PCall Tryd.prog 23 [.sl 4 (bars.map encB) .no, .sl 12 (l.map encN) .no, .int p, .int b] (.tup [.sl 12 ((ofR bars l p b).1.map encN) .no, .int (ofR bars l p b).2]) := by
  have hv := r7valid_spec bars l (by omega) (by omega)
  have hba := r7bar_spec bars b (by omega)
  by_cases hok : ((notesOk bars l && inB p 1 1000000) && inB b 1 1000000) = true
  · have hn : notesOk bars l = true := by simp only [Bool.and_eq_true] at hok; exact hok.1.1
    obtain ⟨hbo, hno⟩ := notesOk_bars hn
    have hok2 : ((!notesOk bars l || !inB p 1 1000000) || !inB b 1 1000000) = false := by
      revert hok; cases notesOk bars l <;> cases inB p 1 1000000 <;> cases inB b 1 1000000 <;> simp
    by_cases hk : (lk (idxAL bars) b).isSome = true
    · obtain ⟨j, _, j2, _, _⟩ := lk_some hbo hk
      have hb0 : 0 ≤ barAt bars b := by omega
      have hin : ∀ n ∈ l.filter (isOf p b), noteIn n := fun n hn' => notesOk_in hn n (List.mem_filter.1 hn').1
      have er : ofR bars l p b = (putsL (idxAL bars) (l.filter (isOf p b)), 0) := by
        unfold ofR; rw [if_pos hok, if_pos hk, sortN_puts hin (nodup_filter (notesOk_nodup hn) _)]
      rw [er]
      refine PCall.body Tryd.func23 rfl rfl Tryd.ntmps23 rfl rfl ?_
      repeat' (first | refine AOps.q rfl rfl rfl (fun hg => by first | exact std0 | exact PRun.callW (hv) rfl rfl nd rfl nds | exact PRun.callW (hba) rfl rfl nd rfl nds | exact PRun.callW (r7in_spec _ _ _) rfl rfl nd rfl nds | exact std1) (by exact rfl) ?_ | refine AWP.seq ?_ | refine AWP.regionK (fun K' hK => ?_) | (refine AOps.nil (hK _ _ ?_); clear hK K') | refine AOps.e (EStep.boxW rfl rfl rfl rfl rfl True.intro rfl rfl ?_) | refine AOps.e (EStep.storeW tabOk rfl rfl rfl True.intro rfl rfl True.intro rfl rfl rfl rfl rfl rfl rfl ?_) | refine AOps.e (EStep.allocW tabOk rfl rfl rfl rfl rfl rfl ?_) | (refine AWP.condW rfl True.intro (fun hc => ?_) (fun hc => ?_) <;> (first | (simp only [decide_eq_true_eq] at hc) | (simp only [decide_eq_false_iff_not, Int.not_lt, Int.not_le] at hc) | skip)) | refine AWP.block ?_ | refine AWP.exit ?_ | refine AWP.skip ?_ | refine AWP.ret ?_ | refine AWP.drawK2 (by decide +kernel) (by kernel_rfl) (by decide +kernel) rfl (fun K' hK => ?_) | refine AWP.drawL2 (by kernel_rfl) (by decide +kernel) rfl (fun K' hK => ?_) | (refine AQ.nil (hK _ ?_); clear hK K') | refine AQ.nil ?_ | refine AQ.q rfl rfl (fun hg => by first | exact std0 | exact PRun.callW (hv) rfl rfl nd rfl nds | exact PRun.callW (hba) rfl rfl nd rfl nds | exact PRun.callW (r7in_spec _ _ _) rfl rfl nd rfl nds | exact std1) (by exact rfl) ?_)
      all_goals (first | (exact absurd (hok2.symm.trans hc) (by decide)) | (exfalso; omega) | skip)
      refine AWP.nilNo 11 12 rfl ?_
      refine AWP.loopW (ι := Nat) (fun k => [(0, .sl 4 (bars.map encB) .no), (1, .sl 12 (l.map encN) .no), (2, .int p), (3, .int b), (11, .sl 12 ((putsL (idxAL bars) ((l.take k).filter (isOf p b))).map encN) .no), (12, .int k)]) (fun _ => []) (fun k => k ≤ l.length) (fun k => l.length - k) 0 (Nat.zero_le _) ⟨rfl, rfl, rfl, rfl, rfl, rfl, True.intro⟩ rfl ?_
      intro k hk'
      by_cases hlt : k < l.length
      · obtain ⟨n, hn'⟩ : ∃ n, l.getD k default = n := ⟨_, rfl⟩
        have hmem : n ∈ l := by rw [← hn']; exact getD_mem hlt
        have hlen : (putsL (idxAL bars) ((l.take k).filter (isOf p b))).length ≤ l.length := by
          rw [(puts_perm _ _).length_eq]
          have := List.length_filter_le (isOf p b) (l.take k)
          simp only [List.length_take] at this; omega
        have hal : ∀ x ∈ putsL (idxAL bars) ((l.take k).filter (isOf p b)), noteOk bars x = true := fun x hx => hno x (List.mem_of_mem_take (List.mem_filter.1 ((puts_perm _ _).mem_iff.1 hx)).1)
        have hp := put_spec bars (putsL (idxAL bars) ((l.take k).filter (isOf p b))) n (by omega) (by omega) hbo (hno n hmem) hal
        have hsuc : (l.take (k + 1)).filter (isOf p b) = (l.take k).filter (isOf p b) ++ (if isOf p b n then [n] else []) := by
          rw [take_snoc' hlt, List.filter_append, hn']
          by_cases h : isOf p b n = true
          · rw [List.filter_cons_of_pos h, if_pos h]; rfl
          · rw [List.filter_cons_of_neg h, if_neg h]; rfl
        clear hal hlen
        repeat' (first | refine AOps.q rfl rfl rfl (fun hg => by first | exact PRun.eq (v := .iptr (encN (l.getD ((k : Nat) : Int).toNat default))) (PRun.indexMW tabOk rfl rfl nd rfl nd rfl rfl (by omega)) (congrArg (fun x => AV.iptr (encN x)) hn') | exact std0 | exact PRun.callW (hp) rfl rfl nd rfl nds | exact std1) (by exact rfl) ?_ | refine AWP.seq ?_ | refine AWP.regionK (fun K' hK => ?_) | (refine AOps.nil (hK _ _ ?_); clear hK K') | refine AOps.e (EStep.boxW rfl rfl rfl rfl rfl True.intro rfl rfl ?_) | refine AOps.e (EStep.storeW tabOk rfl rfl rfl True.intro rfl rfl True.intro rfl rfl rfl rfl rfl rfl rfl ?_) | refine AOps.e (EStep.allocW tabOk rfl rfl rfl rfl rfl rfl ?_) | (refine AWP.condW rfl True.intro (fun hc => ?_) (fun hc => ?_) <;> (first | (simp only [decide_eq_true_eq] at hc) | (simp only [decide_eq_false_iff_not, Int.not_lt, Int.not_le] at hc) | skip)) | refine AWP.block ?_ | refine AWP.exit ?_ | refine AWP.skip ?_ | refine AWP.ret ?_ | refine AWP.drawK2 (by decide +kernel) (by kernel_rfl) (by decide +kernel) rfl (fun K' hK => ?_) | refine AWP.drawL2 (by kernel_rfl) (by decide +kernel) rfl (fun K' hK => ?_) | (refine AQ.nil (hK _ ?_); clear hK K') | refine AQ.nil ?_ | refine AQ.q rfl rfl (fun hg => by first | exact PRun.eq (v := .iptr (encN (l.getD ((k : Nat) : Int).toNat default))) (PRun.indexMW tabOk rfl rfl nd rfl nd rfl rfl (by omega)) (congrArg (fun x => AV.iptr (encN x)) hn') | exact std0 | exact PRun.callW (hp) rfl rfl nd rfl nds | exact std1) (by exact rfl) ?_)
        all_goals (first | (exfalso; omega) | (exfalso; simp at hc; omega) | skip)
        · have h : isOf p b n = true := hc
          rw [if_pos h] at hsuc
          refine ⟨k + 1, hlt, by omega, ⟨rfl, rfl, rfl, rfl, ?_, rfl, True.intro⟩, rfl⟩
          rw [hsuc]; unfold putsL; rw [List.foldl_append]; rfl
        · have h : isOf p b n = false := hc
          rw [if_neg (by rw [h]; decide), List.append_nil] at hsuc
          refine ⟨k + 1, hlt, by omega, ⟨rfl, rfl, rfl, rfl, ?_, rfl, True.intro⟩, rfl⟩
          rw [hsuc]; rfl
      · repeat' (first | refine AOps.q rfl rfl rfl (fun hg => by first | exact std0 | exact std1) (by exact rfl) ?_ | refine AWP.seq ?_ | refine AWP.regionK (fun K' hK => ?_) | (refine AOps.nil (hK _ _ ?_); clear hK K') | refine AOps.e (EStep.boxW rfl rfl rfl rfl rfl True.intro rfl rfl ?_) | refine AOps.e (EStep.storeW tabOk rfl rfl rfl True.intro rfl rfl True.intro rfl rfl rfl rfl rfl rfl rfl ?_) | refine AOps.e (EStep.allocW tabOk rfl rfl rfl rfl rfl rfl ?_) | (refine AWP.condW rfl True.intro (fun hc => ?_) (fun hc => ?_) <;> (first | (simp only [decide_eq_true_eq] at hc) | (simp only [decide_eq_false_iff_not, Int.not_lt, Int.not_le] at hc) | skip)) | refine AWP.block ?_ | refine AWP.exit ?_ | refine AWP.skip ?_ | refine AWP.ret ?_ | refine AWP.drawK2 (by decide +kernel) (by kernel_rfl) (by decide +kernel) rfl (fun K' hK => ?_) | refine AWP.drawL2 (by kernel_rfl) (by decide +kernel) rfl (fun K' hK => ?_) | (refine AQ.nil (hK _ ?_); clear hK K') | refine AQ.nil ?_ | refine AQ.q rfl rfl (fun hg => by first | exact std0 | exact std1) (by exact rfl) ?_)
        all_goals (first | (exfalso; omega) | skip)
        refine ⟨.inr rfl, Ent.of ?_⟩
        rw [show k = l.length by omega, List.take_length]; rfl
    · have er : ofR bars l p b = ([], 21) := by unfold ofR; rw [if_pos hok, if_neg hk]
      rw [er]
      have hb0 : barAt bars b < 0 := by
        rcases lk_bar (barsOk_nodup hbo) b with ⟨_, h2⟩ | ⟨j, h1, _⟩
        · omega
        · rw [h1] at hk; exact absurd rfl hk
      refine PCall.body Tryd.func23 rfl rfl Tryd.ntmps23 rfl rfl ?_
      repeat' (first | refine AOps.q rfl rfl rfl (fun hg => by first | exact std0 | exact PRun.callW (hv) rfl rfl nd rfl nds | exact PRun.callW (hba) rfl rfl nd rfl nds | exact PRun.callW (r7in_spec _ _ _) rfl rfl nd rfl nds | exact std1) (by exact rfl) ?_ | refine AWP.seq ?_ | refine AWP.regionK (fun K' hK => ?_) | (refine AOps.nil (hK _ _ ?_); clear hK K') | refine AOps.e (EStep.boxW rfl rfl rfl rfl rfl True.intro rfl rfl ?_) | refine AOps.e (EStep.storeW tabOk rfl rfl rfl True.intro rfl rfl True.intro rfl rfl rfl rfl rfl rfl rfl ?_) | refine AOps.e (EStep.allocW tabOk rfl rfl rfl rfl rfl rfl ?_) | (refine AWP.condW rfl True.intro (fun hc => ?_) (fun hc => ?_) <;> (first | (simp only [decide_eq_true_eq] at hc) | (simp only [decide_eq_false_iff_not, Int.not_lt, Int.not_le] at hc) | skip)) | refine AWP.block ?_ | refine AWP.exit ?_ | refine AWP.skip ?_ | refine AWP.ret ?_ | (refine AQ.nil (hK _ ?_); clear hK K') | refine AQ.nil ?_ | refine AQ.q rfl rfl (fun hg => by first | exact std0 | exact PRun.callW (hv) rfl rfl nd rfl nds | exact PRun.callW (hba) rfl rfl nd rfl nds | exact PRun.callW (r7in_spec _ _ _) rfl rfl nd rfl nds | exact std1) (by exact rfl) ?_)
      all_goals (first | (exact absurd (hok2.symm.trans hc) (by decide)) | (exact ⟨.inr rfl, Ent.tup2 Ent.nil (Ent.rfl' _)⟩) | (exfalso; omega) | skip)
  · have er : ofR bars l p b = ([], 1) := by unfold ofR; rw [if_neg hok]
    rw [er]
    have hok2 : ((!notesOk bars l || !inB p 1 1000000) || !inB b 1 1000000) = true := by
      revert hok; cases notesOk bars l <;> cases inB p 1 1000000 <;> cases inB b 1 1000000 <;> simp
    refine PCall.body Tryd.func23 rfl rfl Tryd.ntmps23 rfl rfl ?_
    repeat' (first | refine AOps.q rfl rfl rfl (fun hg => by first | exact std0 | exact PRun.callW (hv) rfl rfl nd rfl nds | exact PRun.callW (hba) rfl rfl nd rfl nds | exact PRun.callW (r7in_spec _ _ _) rfl rfl nd rfl nds | exact std1) (by exact rfl) ?_ | refine AWP.seq ?_ | refine AWP.regionK (fun K' hK => ?_) | (refine AOps.nil (hK _ _ ?_); clear hK K') | refine AOps.e (EStep.boxW rfl rfl rfl rfl rfl True.intro rfl rfl ?_) | refine AOps.e (EStep.storeW tabOk rfl rfl rfl True.intro rfl rfl True.intro rfl rfl rfl rfl rfl rfl rfl ?_) | refine AOps.e (EStep.allocW tabOk rfl rfl rfl rfl rfl rfl ?_) | (refine AWP.condW rfl True.intro (fun hc => ?_) (fun hc => ?_) <;> (first | (simp only [decide_eq_true_eq] at hc) | (simp only [decide_eq_false_iff_not, Int.not_lt, Int.not_le] at hc) | skip)) | refine AWP.block ?_ | refine AWP.exit ?_ | refine AWP.skip ?_ | refine AWP.ret ?_ | (refine AQ.nil (hK _ ?_); clear hK K') | refine AQ.nil ?_ | refine AQ.q rfl rfl (fun hg => by first | exact std0 | exact PRun.callW (hv) rfl rfl nd rfl nds | exact PRun.callW (hba) rfl rfl nd rfl nds | exact PRun.callW (r7in_spec _ _ _) rfl rfl nd rfl nds | exact std1) (by exact rfl) ?_)
    all_goals (first | (exact ⟨.inr rfl, Ent.tup2 Ent.nil (Ent.rfl' _)⟩) | (exact absurd (hok2.symm.trans hc) (by decide)) | (rename_i h0; exact absurd (hok2.symm.trans h0) (by decide)) | (rename_i h1 h0; exact absurd (hok2.symm.trans h1) (by decide)) | skip)
/-- Spans of small numbers. -/
def Small (l : List Iv) : Prop := ∀ x ∈ l, (0 ≤ x.1 ∧ x.1 ≤ 1000000) ∧ 0 ≤ x.2 ∧ x.2 ≤ 1000000
set_option maxHeartbeats 4000000 in
set_option maxRecDepth 20000 in
theorem rats_spec (l : List Iv) (hl : l.length ≤ 1000000) (hs : Small l) : PCall Tryd.prog 65 [.sl 2 (l.map encIv) .no] (.sl 4 (l.map encQ) .no) := by
  refine PCall.body Tryd.func65 rfl rfl Tryd.ntmps65 rfl rfl ?_
  repeat' (first | refine AOps.q rfl rfl rfl (fun hg => by first | exact std0 | exact std1) (by exact rfl) ?_ | refine AWP.seq ?_ | refine AWP.regionK (fun K' hK => ?_) | (refine AOps.nil (hK _ _ ?_); clear hK K') | refine AOps.e (EStep.boxW rfl rfl rfl rfl rfl True.intro rfl rfl ?_) | refine AOps.e (EStep.storeW tabOk rfl rfl rfl True.intro rfl rfl True.intro rfl rfl rfl rfl rfl rfl rfl ?_) | refine AOps.e (EStep.allocW tabOk rfl rfl rfl rfl rfl rfl ?_) | (refine AWP.condW rfl True.intro (fun hc => ?_) (fun hc => ?_) <;> (first | (simp only [decide_eq_true_eq] at hc) | (simp only [decide_eq_false_iff_not, Int.not_lt, Int.not_le] at hc) | skip)) | refine AWP.block ?_ | refine AWP.exit ?_ | refine AWP.skip ?_ | refine AWP.ret ?_ | refine AWP.drawK2 (by decide +kernel) (by kernel_rfl) (by decide +kernel) rfl (fun K' hK => ?_) | refine AWP.drawL2 (by kernel_rfl) (by decide +kernel) rfl (fun K' hK => ?_) | (refine AQ.nil (hK _ ?_); clear hK K') | refine AQ.nil ?_ | refine AQ.q rfl rfl (fun hg => by first | exact std0 | exact std1) (by exact rfl) ?_)
  refine AWP.ownNil (d := 3) (sz := 4) rfl ?_
  refine AWP.loopD (ι := Nat) (fun k => [(0, .sl 2 (l.map encIv) .no), (3, .sl 4 ((l.take k).map encQ) (.own 0)), (4, .int k)]) (fun k => [.own 4 ((l.take k).map encQ).length])
    (fun k => k ≤ l.length) (fun k => l.length - k) 1 (fun _ => rfl) 0 (Nat.zero_le _) ⟨rfl, rfl, rfl, True.intro⟩ rfl (fun _ _ => rfl) (fun _ _ => rfl) ?_
  intro k hk
  by_cases hlt : k < l.length
  · obtain ⟨x, hx⟩ : ∃ x, l.getD k default = x := ⟨_, rfl⟩
    obtain ⟨x1, x2⟩ := hs x (by rw [← hx]; exact getD_mem hlt)
    have c1 := of6_spec x.1 x1
    have c2 := of6_spec x.2 x2
    have hln : ((l.take k).map encQ).length ≤ 1000000 := by simp; omega
    have hsuc : (l.take (k + 1)).map encQ = (l.take k).map encQ ++ [encQ x] := by
      rw [take_snoc' hlt, List.map_append, hx]; rfl
    generalize (l.take k).map encQ = L at *
    repeat' (first | refine AOps.q rfl rfl rfl (fun hg => by first | exact std0 | exact std1) (by exact rfl) ?_ | refine AWP.seq ?_ | refine AWP.regionK (fun K' hK => ?_) | (refine AOps.nil (hK _ _ ?_); clear hK K') | refine AOps.e (EStep.boxW rfl rfl rfl rfl rfl True.intro rfl rfl ?_) | refine AOps.e (EStep.storeW tabOk rfl rfl rfl True.intro rfl rfl True.intro rfl rfl rfl rfl rfl rfl rfl ?_) | refine AOps.e (EStep.allocW tabOk rfl rfl rfl rfl rfl rfl ?_) | (refine AWP.condW rfl True.intro (fun hc => ?_) (fun hc => ?_) <;> (first | (simp only [decide_eq_true_eq] at hc) | (simp only [decide_eq_false_iff_not, Int.not_lt, Int.not_le] at hc) | skip)) | refine AWP.block ?_ | refine AWP.exit ?_ | refine AWP.skip ?_ | refine AWP.ret ?_ | (refine AQ.nil (hK _ ?_); clear hK K') | refine AQ.nil ?_ | refine AQ.q rfl rfl (fun hg => by first | exact std0 | exact std1) (by exact rfl) ?_)
    all_goals (first | (exfalso; omega) | (exfalso; simp at hc; omega) | skip)
    refine AWP.drawY (fun j => match j with | 0 => [.own 4 L.length] | _ => [.own 4 (L ++ [encQ x]).length]) rfl (by kernel_rfl) (by decide +kernel) rfl (by decide +kernel) (fun K' hK => ?_)
    repeat' (first
      | refine YQ.q (a := 0) (b := 0) rfl (by decide +kernel) (by decide +kernel) rfl rfl rfl (fun k h1 h2 hg => by (have hk : k = 0 := (by omega)); (rcases hk with rfl) <;> (first | exact PRun.eq (v := .iptr (encIv (l.getD ((k : Nat) : Int).toNat default))) (PRun.indexMW tabOk rfl rfl nd rfl nd rfl rfl (by omega)) (congrArg (fun x => AV.iptr (encIv x)) hx) | exact std0 | exact PRun.indexArr tabOk rfl rfl nd rfl nd rfl rfl ⟨by decide, by decide⟩ | exact PRun.callW (c1) rfl rfl nd rfl nds | exact PRun.callW (c2) rfl rfl nd rfl nds | exact PRun.buildAW tabOk rfl rfl nds | exact PRun.buildSlW tabOk rfl rfl nds | exact std1)) (by exact rfl) ?_
      | refine YQ.q (a := 0) (b := 1) rfl (by decide +kernel) (by decide +kernel) rfl rfl rfl (fun k h1 h2 hg => by (have hk : k = 0 ∨ k = 1 := (by omega)); (rcases hk with rfl | rfl) <;> (first | exact PRun.eq (v := .iptr (encIv (l.getD ((k : Nat) : Int).toNat default))) (PRun.indexMW tabOk rfl rfl nd rfl nd rfl rfl (by omega)) (congrArg (fun x => AV.iptr (encIv x)) hx) | exact std0 | exact PRun.indexArr tabOk rfl rfl nd rfl nd rfl rfl ⟨by decide, by decide⟩ | exact PRun.callW (c1) rfl rfl nd rfl nds | exact PRun.callW (c2) rfl rfl nd rfl nds | exact PRun.buildAW tabOk rfl rfl nds | exact PRun.buildSlW tabOk rfl rfl nds | exact std1)) (by exact rfl) ?_
      | refine YQ.q (a := 1) (b := 1) rfl (by decide +kernel) (by decide +kernel) rfl rfl rfl (fun k h1 h2 hg => by (have hk : k = 1 := (by omega)); (rcases hk with rfl) <;> (first | exact PRun.eq (v := .iptr (encIv (l.getD ((k : Nat) : Int).toNat default))) (PRun.indexMW tabOk rfl rfl nd rfl nd rfl rfl (by omega)) (congrArg (fun x => AV.iptr (encIv x)) hx) | exact std0 | exact PRun.indexArr tabOk rfl rfl nd rfl nd rfl rfl ⟨by decide, by decide⟩ | exact PRun.callW (c1) rfl rfl nd rfl nds | exact PRun.callW (c2) rfl rfl nd rfl nds | exact PRun.buildAW tabOk rfl rfl nds | exact PRun.buildSlW tabOk rfl rfl nds | exact std1)) (by exact rfl) ?_
      | refine YQ.q (a := 0) (b := 2) rfl (by decide +kernel) (by decide +kernel) rfl rfl rfl (fun k h1 h2 hg => by (have hk : k = 0 ∨ k = 1 ∨ k = 2 := (by omega)); (rcases hk with rfl | rfl | rfl) <;> (first | exact PRun.eq (v := .iptr (encIv (l.getD ((k : Nat) : Int).toNat default))) (PRun.indexMW tabOk rfl rfl nd rfl nd rfl rfl (by omega)) (congrArg (fun x => AV.iptr (encIv x)) hx) | exact std0 | exact PRun.indexArr tabOk rfl rfl nd rfl nd rfl rfl ⟨by decide, by decide⟩ | exact PRun.callW (c1) rfl rfl nd rfl nds | exact PRun.callW (c2) rfl rfl nd rfl nds | exact PRun.buildAW tabOk rfl rfl nds | exact PRun.buildSlW tabOk rfl rfl nds | exact std1)) (by exact rfl) ?_
      | refine YQ.q (a := 1) (b := 2) rfl (by decide +kernel) (by decide +kernel) rfl rfl rfl (fun k h1 h2 hg => by (have hk : k = 1 ∨ k = 2 := (by omega)); (rcases hk with rfl | rfl) <;> (first | exact PRun.eq (v := .iptr (encIv (l.getD ((k : Nat) : Int).toNat default))) (PRun.indexMW tabOk rfl rfl nd rfl nd rfl rfl (by omega)) (congrArg (fun x => AV.iptr (encIv x)) hx) | exact std0 | exact PRun.indexArr tabOk rfl rfl nd rfl nd rfl rfl ⟨by decide, by decide⟩ | exact PRun.callW (c1) rfl rfl nd rfl nds | exact PRun.callW (c2) rfl rfl nd rfl nds | exact PRun.buildAW tabOk rfl rfl nds | exact PRun.buildSlW tabOk rfl rfl nds | exact std1)) (by exact rfl) ?_
      | refine YQ.q (a := 2) (b := 2) rfl (by decide +kernel) (by decide +kernel) rfl rfl rfl (fun k h1 h2 hg => by (have hk : k = 2 := (by omega)); (rcases hk with rfl) <;> (first | exact PRun.eq (v := .iptr (encIv (l.getD ((k : Nat) : Int).toNat default))) (PRun.indexMW tabOk rfl rfl nd rfl nd rfl rfl (by omega)) (congrArg (fun x => AV.iptr (encIv x)) hx) | exact std0 | exact PRun.indexArr tabOk rfl rfl nd rfl nd rfl rfl ⟨by decide, by decide⟩ | exact PRun.callW (c1) rfl rfl nd rfl nds | exact PRun.callW (c2) rfl rfl nd rfl nds | exact PRun.buildAW tabOk rfl rfl nds | exact PRun.buildSlW tabOk rfl rfl nds | exact std1)) (by exact rfl) ?_)
    refine YQ.e (v := .sl 4 (L ++ [encQ x]) (.own 0)) (d := some 26) rfl rfl rfl ?_ ?_
    · intro env' he
      exact EStep.appendOwn' (l := 0) tabOk rfl rfl rfl (by decide) (Rd.w ((rdv_congr (he 11 (by decide +kernel))).trans rfl) (by rw [rdn_congr (he 11 (by decide +kernel))]; first | exact True.intro | exact rfl)) rfl (Rd.w ((rdv_congr (he 25 (by decide +kernel))).trans rfl) (by rw [rdn_congr (he 25 (by decide +kernel))]; first | exact True.intro | exact rfl)) (.sl rfl (by intro x hx; rcases List.mem_singleton.1 hx with rfl; rfl)) (LOk.of (tabOk.get rfl)) (LOk.of (tabOk.get rfl)) rfl rfl (by simp only [List.length_cons, List.length_nil]; omega) (by simp only [List.length_cons, List.length_nil]; omega) ⟨rfl, rfl⟩
    repeat' (first
      | refine YQ.q (a := 0) (b := 0) rfl (by decide +kernel) (by decide +kernel) rfl rfl rfl (fun k h1 h2 hg => by (have hk : k = 0 := (by omega)); (rcases hk with rfl) <;> (first | exact std0 | exact std1)) (by exact rfl) ?_
      | refine YQ.q (a := 0) (b := 1) rfl (by decide +kernel) (by decide +kernel) rfl rfl rfl (fun k h1 h2 hg => by (have hk : k = 0 ∨ k = 1 := (by omega)); (rcases hk with rfl | rfl) <;> (first | exact std0 | exact std1)) (by exact rfl) ?_
      | refine YQ.q (a := 1) (b := 1) rfl (by decide +kernel) (by decide +kernel) rfl rfl rfl (fun k h1 h2 hg => by (have hk : k = 1 := (by omega)); (rcases hk with rfl) <;> (first | exact std0 | exact std1)) (by exact rfl) ?_
      | refine YQ.q (a := 0) (b := 2) rfl (by decide +kernel) (by decide +kernel) rfl rfl rfl (fun k h1 h2 hg => by (have hk : k = 0 ∨ k = 1 ∨ k = 2 := (by omega)); (rcases hk with rfl | rfl | rfl) <;> (first | exact std0 | exact std1)) (by exact rfl) ?_
      | refine YQ.q (a := 1) (b := 2) rfl (by decide +kernel) (by decide +kernel) rfl rfl rfl (fun k h1 h2 hg => by (have hk : k = 1 ∨ k = 2 := (by omega)); (rcases hk with rfl | rfl) <;> (first | exact std0 | exact std1)) (by exact rfl) ?_
      | refine YQ.q (a := 2) (b := 2) rfl (by decide +kernel) (by decide +kernel) rfl rfl rfl (fun k h1 h2 hg => by (have hk : k = 2 := (by omega)); (rcases hk with rfl) <;> (first | exact std0 | exact std1)) (by exact rfl) ?_)
    refine YQ.nil (hK _ _ ?_)
    clear hK K'
    show AWP _ _ _ _ _ _
    refine AWP.keep [(0, .sl 2 (l.map encIv) .no), (3, .sl 4 (L ++ [encQ x]) (.own 0)), (4, .int k)] ⟨rfl, rfl, rfl, True.intro⟩ ?_
    repeat' (first | refine AOps.q rfl rfl rfl (fun hg => by first | exact std0 | exact std1) (by exact rfl) ?_ | refine AWP.seq ?_ | refine AWP.regionK (fun K' hK => ?_) | (refine AOps.nil (hK _ _ ?_); clear hK K') | refine AOps.e (EStep.boxW rfl rfl rfl rfl rfl True.intro rfl rfl ?_) | refine AOps.e (EStep.storeW tabOk rfl rfl rfl True.intro rfl rfl True.intro rfl rfl rfl rfl rfl rfl rfl ?_) | refine AOps.e (EStep.allocW tabOk rfl rfl rfl rfl rfl rfl ?_) | (refine AWP.condW rfl True.intro (fun hc => ?_) (fun hc => ?_) <;> (first | (simp only [decide_eq_true_eq] at hc) | (simp only [decide_eq_false_iff_not, Int.not_lt, Int.not_le] at hc) | skip)) | refine AWP.block ?_ | refine AWP.exit ?_ | refine AWP.skip ?_ | refine AWP.ret ?_ | refine AWP.drawK2 (by decide +kernel) (by kernel_rfl) (by decide +kernel) rfl (fun K' hK => ?_) | refine AWP.drawL2 (by kernel_rfl) (by decide +kernel) rfl (fun K' hK => ?_) | (refine AQ.nil (hK _ ?_); clear hK K') | refine AQ.nil ?_ | refine AQ.q rfl rfl (fun hg => by first | exact std0 | exact std1) (by exact rfl) ?_)
    all_goals (first | (exfalso; omega) | (exfalso; simp at hc; omega) | skip)
    refine ⟨k + 1, hlt, by omega, ⟨rfl, ?_, rfl, True.intro⟩, ?_⟩
    · rw [hsuc]; rfl
    · rw [hsuc]; simp
  · repeat' (first | refine AOps.q rfl rfl rfl (fun hg => by first | exact std0 | exact std1) (by exact rfl) ?_ | refine AWP.seq ?_ | refine AWP.regionK (fun K' hK => ?_) | (refine AOps.nil (hK _ _ ?_); clear hK K') | refine AOps.e (EStep.boxW rfl rfl rfl rfl rfl True.intro rfl rfl ?_) | refine AOps.e (EStep.storeW tabOk rfl rfl rfl True.intro rfl rfl True.intro rfl rfl rfl rfl rfl rfl rfl ?_) | refine AOps.e (EStep.allocW tabOk rfl rfl rfl rfl rfl rfl ?_) | (refine AWP.condW rfl True.intro (fun hc => ?_) (fun hc => ?_) <;> (first | (simp only [decide_eq_true_eq] at hc) | (simp only [decide_eq_false_iff_not, Int.not_lt, Int.not_le] at hc) | skip)) | refine AWP.block ?_ | refine AWP.exit ?_ | refine AWP.skip ?_ | refine AWP.ret ?_ | refine AWP.drawK2 (by decide +kernel) (by kernel_rfl) (by decide +kernel) rfl (fun K' hK => ?_) | refine AWP.drawL2 (by kernel_rfl) (by decide +kernel) rfl (fun K' hK => ?_) | (refine AQ.nil (hK _ ?_); clear hK K') | refine AQ.nil ?_ | refine AQ.q rfl rfl (fun hg => by first | exact std0 | exact std1) (by exact rfl) ?_)
    all_goals (first | (exfalso; omega) | skip)
    refine ⟨.inr rfl, Ent.of ?_⟩
    rw [show k = l.length by omega, List.take_length]; rfl
end Go.Proofs.YtnmdmmfdnnmdfaaDoor.Nt
