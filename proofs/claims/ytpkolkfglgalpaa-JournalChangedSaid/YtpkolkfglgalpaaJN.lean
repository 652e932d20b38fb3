/- An array variable is cut into a slice, and changes no more. The program's frames. No statement is proved here. -/
import Derived.Test.YtpkolkfglgalpaaJM
import Derived.Test.YtpkolkfglgalpaaJH
import Derived.Test.YtpkolkfglgalpaaJG
import Derived.Test.YtpkolkfglgalpaaM4
set_option linter.unusedVariables false
set_option linter.unusedSimpArgs false
namespace Go.Ab
def isPrim : AV → Bool
  | .prim _ => true
  | _ => false
theorem purePrim {cs : List AV} (h : cs.all isPrim = true) : ∀ c ∈ cs, ∀ M B x, VRel M B c x → VRel M [] c x := fun c hc M B x hx => by
  have h1 := List.all_eq_true.1 h c hc
  cases c <;> simp [isPrim] at h1
  rw [VRel.prim_eq hx]; exact .prim _
theorem one_cell {es : List (List AV)} (h : es.all (fun x => x.all oneAV) = true) : ∀ x ∈ es, x.all oneAV = true := fun x hx => List.all_eq_true.1 h x hx
section
variable {P : Program} {n : Nat} {ops : Array Oper} {o : Oper} {env : Env} {σ : Store} {T : Tab} {k : Env → Store → Prop}
theorem EStep.sliceV (hT : T.Ok P) {t e : TypeId} {x : Operand} {l m s2 b2 d : Nat} {z2 : List Z} {cs : List AV} {le : LI} (ho : o.op = .slice t x none none none) (hg : o.guard = none) (hd : o.dst = some d) (hdn : decide (d < n) = true) (hx : rdv env x = some (.ptr l 0)) (nx : rdn env x)
    (hσ : σ[l]? = some (.var cs)) (ha : T.get t = some ⟨.arr m e, s2, b2, z2⟩) (he : T.get e = some le) (h1 : le.size = 1) (hm : cs.length = m) (h0 : 0 < m) (hpure : ∀ c ∈ cs, ∀ M B x, VRel M B c x → VRel M [] c x)
    (hk : k (env.put d (.sl 1 (cs.map fun c => [c]) .no)) (σ.set l .dead)) : EStep P n ops o k env σ := by
  refine EStep.plain hg fun G A w hr => ?_
  have hX := hr.rd (Rd.w hx nx)
  generalize hA : A.eval x = v at hX
  cases hX with
  | ptr _ _ b hB =>
    have hobj := hr.st.objs l _ _ hB hσ
    cases hobj with
    | var _ _ c T' fr hbb hf hl hrel hmm =>
      have hrun : (execOp A.eval o).run P w = .ok (.value (.slice (some ⟨b, 0, none⟩) m m)) w := by
        have hm0 : ¬ m = 0 := by omega
        simp [execOp, ho, hA, Instr.sliceAt, Instr.sureAddr, Instr.sliceBounds, (LOk.of (hT.get ha)).arr w, (LOk.of (hT.get he)).run_size w, hm0, Addr.add]
      unfold OWP
      rw [hrun]
      have hlt : l < σ.length := by
        rcases Nat.lt_or_ge l σ.length with h | h
        · exact h
        · simp [List.getElem?_eq_none h] at hσ
      have hle := Mem.le_addBlk (M := G.M) (b := b) c hmm
      have hoth : ∀ b', b' ≠ b → (∀ o, (G.M.addBlk b c).cell b' o = G.M.cell b' o) ∧ (G.M.addBlk b c).map b' = G.M.map b' := fun b' hb' => ⟨fun o => by simp only [Mem.addBlk, if_neg hb'], rfl⟩
      have hown : ¬ G.w0.prot b ∧ ∀ (l' : Nat) (g : GB), G.B[l']? = some g → g.block = some b → l' = l :=
        ⟨(hr.st.fresh l _ b hB rfl).1, fun l' g h1 h2 => hr.st.inj l' l g _ b h1 hB h2 rfl⟩
      have hs : SRel { G with M := G.M.addBlk b c } (σ.set l .dead) w := by
        refine ⟨⟨fun b' o v hv => ?_, hr.st.memok.m, hr.st.memok.g.mono hle⟩, fun b' hb' => ?_, hr.st.base, by simp [hr.st.len], fun l' g' o' h1 h2 => ?_, hr.st.fresh, hr.st.inj, hr.st.out, ⟨fun p hp => ?_, hr.st.dfr.2⟩⟩
        · simp only [Mem.addBlk] at hv
          split at hv
          · rename_i e; subst e
            simp only [World.cell?, hbb]; exact hv
          · exact hr.st.memok.c _ _ _ hv
        · have := hoth b' fun eb => hown.1 (eb ▸ hb')
          have h0 := hr.st.m0 b' hb'
          exact ⟨fun o => (this.1 o).trans (h0.1 o), this.2.trans h0.2⟩
        · by_cases hll : l = l'
          · subst hll
            rw [List.getElem?_set_self hlt] at h2
            simp at h2; subst h2; exact .dead _
          · rw [List.getElem?_set_ne hll] at h2
            refine (hr.st.objs l' g' o' h1 h2).grow hle (BLe.refl _) (fun _ _ => rfl) fun b' hb => hoth b' fun eb => ?_
            subst eb
            exact hll (hown.2 l' g' h1 hb).symm
        · obtain ⟨k1, k2, k3, k4, k5⟩ := hr.st.dfr.1 p hp
          have := hoth p.1 fun eb => k3 l _ hB (by rw [eb]; rfl)
          exact ⟨k1, k2, k3, fun o => (this.1 o).trans (k4 o), this.2.trans k5⟩
      refine ⟨_, _, { G with M := G.M.addBlk b c }, hk, .upM hle, ?_⟩
      rw [hd]
      have hr' : ARel n { G with M := G.M.addBlk b c } env (σ.set l .dead) A w := ⟨hr.size, hr.defers, fun i => (hr.vals i).mono hle (BLe.refl _), hs⟩
      refine hr'.put (of_decide_eq_true hdn) ?_
      have hlen : (cs.map fun c => [c]).length = m := by simp [hm]
      rw [← hlen]
      refine .sl 1 _ .no b 0 _ (fun i j => c.getD i undef) (fun e he => ?_) (fun i j hi hj => ?_) (fun i j e a' he ha' => ?_) (Nat.le_refl _) trivial
      · simp only [List.mem_map] at he
        obtain ⟨x, _, rfl⟩ := he; rfl
      · have hj0 : j = 0 := by omega
        subst hj0
        have h2 : i < c.size := by rw [hl]; simpa using hi
        simp only [Mem.addBlk, if_pos rfl, Nat.zero_add, Nat.mul_one, Nat.add_zero]
        simp [h2]
      · simp only [List.getElem?_map, Option.map_eq_some_iff] at he
        obtain ⟨y, hy, rfl⟩ := he
        match j, ha' with
        | 0, ha' =>
          simp at ha'; subst ha'
          exact (hpure y (List.mem_of_getElem? hy) _ _ _ ((hrel i y hy).mono hle (BLe.refl _))).mono (Mem.Le.refl _) (fun l g h => by simp at h)
        | j + 1, ha' => simp at ha'
end
end Go.Ab
namespace Go.Proofs.Ytpkolkfglgalpaa
open Go.Ab Go.Jo
attribute [local irreducible] AWP AOps EStep AQ PStep PRun PCall TCall VCall DStep TDies AWD DCall
theorem head3w (n : Nat) (h : n < 16777216) (r : List (List AV)) : [[AV.prim (.int .u8 (IntKind.u8.wrap ((n : Int).fdiv (2 ^ (Min.min (16 : Int).toNat IntKind.i64.bits)))))], [AV.prim (.int .u8 (IntKind.u8.wrap ((n : Int).fdiv (2 ^ (Min.min (8 : Int).toNat IntKind.i64.bits)))))], [AV.prim (.int .u8 (IntKind.u8.wrap (n : Int)))]] ++ r = (be3 n).map by8 ++ r := by
  have e1 : (2 : Int) ^ (Min.min (16 : Int).toNat IntKind.i64.bits) = 65536 := by decide
  have e2 : (2 : Int) ^ (Min.min (8 : Int).toNat IntKind.i64.bits) = 256 := by decide
  have h1 : (n : Int).fdiv 65536 = ((n / 65536 : Nat) : Int) := by rw [Int.fdiv_eq_ediv_of_nonneg _ (by decide)]; omega
  have h2 : (n : Int).fdiv 256 = ((n / 256 : Nat) : Int) := by rw [Int.fdiv_eq_ediv_of_nonneg _ (by decide)]; omega
  rw [e1, e2, h1, h2, wrap8, wrap8, wrap8]
  simp only [be3, List.map_cons, List.map_nil, by8, ofNat_toNat8]
set_option maxHeartbeats 1600000 in
theorem frame_spec (l : List Int) (hi : ∀ n ∈ l, InI n) (hl : l.length ≤ 9223372036854775807) : PCall Try.prog 33 [.sl 1 (l.map encN) .no] (.tup [.sl 1 ((frameR l).1.map by8) .no, .int (frameR l).2]) := by
  have hv0 := put_spec l hi hl
  refine PCall.body Try.func33 rfl rfl Try.ntmps33 rfl rfl ?_
  by_cases h4 : l.length ≤ 4000
  · have hp := putL_len (l := l) h4
    have hh : (headed l).length = (putL l).length + 3 := by simp [headed, be3]
    have hb3 : (be3 (putL l).length).length = 3 := rfl
    rw [show putR l = (putL l, 0) from if_pos h4] at hv0
    dsimp only at hv0
    have hv1 := sum_spec (headed l) (by omega)
    have e : (headed l).map by8 = (be3 (putL l).length).map by8 ++ (putL l).map by8 := by unfold headed; rw [List.map_append]
    rw [e, ← head3w (putL l).length (by omega)] at hv1
    repeat' (first
      | refine AOps.q rfl rfl rfl (fun hg => by first | exact std0 | exact PRun.callW (hv0) rfl rfl nd rfl nds | exact PRun.bitsW rfl rfl nd rfl nd rfl | exact PRun.shlW rfl rfl nd rfl nd (by omega) | exact PRun.shrW rfl rfl nd rfl nd (by omega) | exact PRun.callBW (hv1) rfl rfl nd rfl rfl nds | exact std1) (by exact rfl) ?_
      | refine AWP.seq ?_
      | refine AWP.regionK (fun K' hK => ?_)
      | (refine AOps.nil (hK _ _ ?_); clear hK K')
      | refine AOps.e (EStep.boxW rfl rfl rfl rfl rfl True.intro rfl rfl ?_)
      | refine AOps.e (EStep.storeW tabOk rfl rfl rfl True.intro rfl rfl True.intro rfl rfl rfl rfl rfl rfl rfl ?_)
      | refine AOps.e (EStep.allocW tabOk rfl rfl rfl rfl rfl rfl ?_)
      | refine AOps.e (EStep.appendOwn' tabOk rfl rfl rfl (by decide) (Rd.w rfl True.intro) rfl (Rd.w rfl True.intro) (.sl rfl (by first | (intro x hx; rcases List.mem_singleton.1 hx with rfl; rfl) | exact one_by8 _ | exact one_ints _)) (LOk.of (tabOk.get rfl)) (LOk.of (tabOk.get rfl)) rfl rfl (by simp only [List.length_map, List.length_append, List.length_cons, List.length_nil]; omega) (by simp only [List.length_map, List.length_append, List.length_cons, List.length_nil]; omega) ?_)
      | refine AOps.e (EStep.buildOwn tabOk rfl rfl rfl rfl rfl ⟨True.intro, True.intro, True.intro, True.intro⟩ (pure8 [_, _, _]) ?_)
      | refine AOps.e (EStep.sliceV tabOk rfl rfl rfl rfl rfl True.intro rfl rfl rfl rfl rfl (by decide) (purePrim rfl) ?_)
      | refine AOps.e (EStep.appendOwn' tabOk rfl rfl rfl (by decide) (Rd.w rfl True.intro) rfl (Rd.w rfl True.intro) (.sl rfl (one_cell rfl)) (LOk.of (tabOk.get rfl)) (LOk.of (tabOk.get rfl)) rfl rfl (by simp only [List.length_map, List.length_append, List.length_cons, List.length_nil]; omega) (by simp only [List.length_map, List.length_append, List.length_cons, List.length_nil]; omega) ?_)
      | (refine AWP.condW rfl True.intro (fun hc => ?_) (fun hc => ?_) <;> (first | (simp only [decide_eq_true_eq] at hc) | (simp only [decide_eq_false_iff_not, Int.not_lt, Int.not_le] at hc) | skip))
      | refine AWP.block ?_
      | refine AWP.exit ?_
      | refine AWP.skip ?_
      | refine AWP.ret ?_
      | refine AWP.drawK2 (by decide +kernel) (by kernel_rfl) (by decide +kernel) rfl (fun K' hK => ?_)
      | refine AWP.drawL2 (by kernel_rfl) (by decide +kernel) rfl (fun K' hK => ?_)
      | (refine AQ.nil (hK _ ?_); clear hK K')
      | refine AQ.nil ?_
      | refine AQ.q rfl rfl (fun hg => by first | exact std0 | exact PRun.callW (hv0) rfl rfl nd rfl nds | exact PRun.bitsW rfl rfl nd rfl nd rfl | exact PRun.shlW rfl rfl nd rfl nd (by omega) | exact PRun.shrW rfl rfl nd rfl nd (by omega) | exact PRun.callBW (hv1) rfl rfl nd rfl rfl nds | exact std1) (by exact rfl) ?_)
    · exfalso; simp at hc
    · refine ⟨.inr rfl, Ent.of ?_⟩
      rw [show frameR l = (frame l, 0) from if_pos h4]
      show AV.tup [.sl 1 ((_ ++ _) ++ (sumB (headed l)).map by8) .no, .int 0] = _
      rw [head3w (putL l).length (by omega), ← e, ← List.map_append]; rfl
  · rw [show putR l = ([], 2) from if_neg h4] at hv0
    repeat' (first
      | refine AOps.q rfl rfl rfl (fun hg => by first | exact std0 | exact PRun.callW (hv0) rfl rfl nd rfl nds | exact std1) (by exact rfl) ?_
      | refine AWP.seq ?_
      | refine AWP.regionK (fun K' hK => ?_)
      | (refine AOps.nil (hK _ _ ?_); clear hK K')
      | refine AOps.e (EStep.boxW rfl rfl rfl rfl rfl True.intro rfl rfl ?_)
      | refine AOps.e (EStep.storeW tabOk rfl rfl rfl True.intro rfl rfl True.intro rfl rfl rfl rfl rfl rfl rfl ?_)
      | refine AOps.e (EStep.allocW tabOk rfl rfl rfl rfl rfl rfl ?_)
      | (refine AWP.condW rfl True.intro (fun hc => ?_) (fun hc => ?_) <;> (first | (simp only [decide_eq_true_eq] at hc) | (simp only [decide_eq_false_iff_not, Int.not_lt, Int.not_le] at hc) | skip))
      | refine AWP.block ?_
      | refine AWP.exit ?_
      | refine AWP.skip ?_
      | refine AWP.ret ?_
      | refine AWP.drawK2 (by decide +kernel) (by kernel_rfl) (by decide +kernel) rfl (fun K' hK => ?_)
      | refine AWP.drawL2 (by kernel_rfl) (by decide +kernel) rfl (fun K' hK => ?_)
      | (refine AQ.nil (hK _ ?_); clear hK K')
      | refine AQ.nil ?_
      | refine AQ.q rfl rfl (fun hg => by first | exact std0 | exact PRun.callW (hv0) rfl rfl nd rfl nds | exact std1) (by exact rfl) ?_)
    · refine ⟨.inr rfl, ?_⟩
      rw [show frameR l = ([], 2) from if_neg h4]
      exact Ent.tup2 Ent.nil (Ent.rfl' _)
    all_goals (exfalso; simp at hc; done)
end Go.Proofs.Ytpkolkfglgalpaa
