/- The law ScoreFinds by content. -/
import Derived.Test.YtjonnpjbibgjnaaGreatDoorSK
set_option linter.unusedVariables false
set_option linter.unusedSimpArgs false
namespace Go.Ab
theorem PRun.eq {P : Program} {o : Oper} {env : Env} {σ : Store} {v v' : AV} (h : PRun P o env σ v) (e : v = v') : PRun P o env σ v' := e ▸ h
theorem PRun.convV {P : Program} {T : Tab} (hT : T.Ok P) {o : Oper} {env : Env} {σ : Store} {s d : TypeId} {x : Operand} {k k' : IntKind} {a r : Int} {lis : LI} {sz by' : Nat} {z : List Z} (h : k'.wrap a = r) (ho : o.op = .convert s d x) (hx : rdv env x = some (.prim (.int k a))) (nx : rdn env x) (hs' : T.get s = some lis) (hl : T.get d = some ⟨.int k', sz, by', z⟩) :
    PRun P o env σ (.prim (.int k' r)) := h ▸ PRun.convW hT ho hx nx hs' hl
theorem PRun.remV {P : Program} {o : Oper} {env : Env} {σ : Store} {t t' : TypeId} {x y : Operand} {k : IntKind} {a b r : Int} (h : a.tmod b = r) (hb : b ≠ 0) (ho : o.op = .binOp .rem t x y t') (hx : rdv env x = some (.prim (.int k a))) (nx : rdn env x) (hy : rdv env y = some (.prim (.int k b))) (ny : rdn env y) :
    PRun P o env σ (.prim (.int k r)) := h ▸ PRun.rem ho (Rd.w hx nx) (Rd.w hy ny) hb
end Go.Ab
namespace Go.Proofs.YtjonnpjbibgjnaaGreatDoor
open Go.Ab
attribute [local irreducible] AWP AOps EStep AQ PStep PRun PCall TCall VCall

theorem scoreOk_parts {s : Score} (h : scoreOk s = true) : inB s.version 1 1000000 = true ∧ barsOk s.bars = true ∧ partsOk s.parts = true ∧ notesOk s.bars s.notes = true ∧ wrongR s.parts s.notes = 0 := by
  unfold scoreOk scoreBad at h
  simp only [Bool.and_eq_true, Bool.not_eq_true', Bool.or_eq_false_iff, Bool.not_eq_false', bne_eq_false_iff_eq] at h
  exact ⟨h.1.1.1.1.1, h.1.1.1.1.2, h.1.1.1.2, h.1.1.2, h.1.2⟩
theorem barsOk_len {l : List Bar} (h : barsOk l = true) : 1 ≤ l.length := by
  unfold barsOk at h; simp only [Bool.and_eq_true, decide_eq_true_eq] at h; exact h.1.2
theorem partsOk_len {l : List Part} (h : partsOk l = true) : 1 ≤ l.length := by
  unfold partsOk inB at h; simp only [Bool.and_eq_true, decide_eq_true_eq] at h; omega
theorem findI_id {α : Type} [Inhabited α] (f : α → Int) {l : List α} (hn : (l.map f).Nodup) {i : Nat} (hi : i < l.length) : findI (fun x => f x == f (l.getD i default)) l = i :=
  findI_at hi (by simp) fun j hj => by
    have : f (l.getD j default) ≠ f (l.getD i default) := fun e => by
      have := nodup_at f hn (show j < l.length by omega) hi e
      omega
    simpa using this
theorem idR_at {ok : Bool} {i : Nat} (h : ok = true) : idR ok (i : Int) = ((i : Int), true, 0) := by
  unfold idR idxR; rw [if_pos h]; simp
theorem barR_at {s : Score} (h : scoreOk s = true) {i : Nat} (hi : i < s.bars.length) : barR s (s.bars.getD i default).id = ((i : Int), true, 0) := by
  obtain ⟨_, hb, _, _, _⟩ := scoreOk_parts h
  unfold barR
  rw [findI_id (fun b : Bar => b.id) (barsOk_nodup hb) hi]
  refine idR_at ?_
  unfold askedB; rw [h, Bool.true_and]
  unfold barsOk at hb
  simp only [Bool.and_eq_true, List.all_eq_true] at hb
  have := all_mem hb.1.1.1 hi
  unfold barOk barA at this
  simp only [Bool.and_eq_true, Bool.not_eq_true', Bool.or_eq_false_iff, decide_eq_false_iff_not] at this
  simp only [inB, Bool.and_eq_true, decide_eq_true_eq]; omega
theorem partR_at {s : Score} (h : scoreOk s = true) {i : Nat} (hi : i < s.parts.length) : partR s (s.parts.getD i default).id = ((i : Int), true, 0) := by
  obtain ⟨_, _, hp, _, _⟩ := scoreOk_parts h
  unfold partR
  rw [findI_id (fun b : Part => b.id) (partsOk_nodup hp) hi]
  refine idR_at ?_
  unfold askedB; rw [h, Bool.true_and]
  have := all_mem (partsOk_all hp) hi
  unfold partOk partBad partNums at this
  simp only [Bool.and_eq_true, Bool.not_eq_true', Bool.or_eq_false_iff, Bool.not_eq_false'] at this
  exact this.1.1.1.1.1.1.1.1
theorem noteOk_in {bars : List Bar} {n : Note} (h : noteOk bars n = true) : noteIn n := by
  unfold noteOk at h
  split at h
  · unfold nformed noteForm at h
    simp only [Bool.and_eq_true, inB, decide_eq_true_eq] at h
    unfold noteIn; omega
  · cases h
theorem noteR_at {s : Score} (h : scoreOk s = true) {i : Nat} (hi : i < s.notes.length) : noteR s (s.notes.getD i default).id = ((i : Int), true, 0) := by
  obtain ⟨_, _, _, hn, _⟩ := scoreOk_parts h
  unfold noteR
  rw [findI_id (fun b : Note => b.id) (notesOk_nodup hn) hi]
  refine idR_at ?_
  unfold askedB; rw [h, Bool.true_and]
  have := noteOk_in (all_mem (notesOk_all hn).2.2 hi)
  unfold noteIn at this
  simp only [inB, Bool.and_eq_true, decide_eq_true_eq]; omega
/-- What an index and its error say. -/
structure FF (r : Int × Bool × Int) (n : Int) (x : Int → Int) (id : Int) : Prop where
  ok : r.2.2 = 0 → r.2.1 = true → 0 ≤ r.1 ∧ r.1 < n ∧ x r.1 = id
  z : r.2.1 = true ∨ r.1 = 0
theorem ff_of {α : Type} [Inhabited α] (f : α → Int) (l : List α) (ok : Bool) (id : Int) : FF (idR ok (findI (fun x => f x == id) l)) l.length (fun i => f (l.getD i.toNat default)) id := by
  unfold idR idxR
  by_cases h : findI (fun x => f x == id) l ≥ 0
  · obtain ⟨k, h1, h2, h3, _⟩ := findI_lt h
    rw [h1]
    cases ok
    · exact ⟨fun h => by simp at h, .inr rfl⟩
    · refine ⟨fun _ _ => ?_, .inl (by simp)⟩
      have e : max (k : Int) 0 = k := by omega
      simp only [if_true, e]
      exact ⟨by omega, by omega, by simpa using h3⟩
  · have h2 := findI_neg.1 (show findI (fun x => f x == id) l < 0 by omega)
    rw [h2]
    cases ok
    · exact ⟨fun h => by simp at h, .inr rfl⟩
    · exact ⟨fun _ h => by simp at h, .inr rfl⟩
theorem FF.bad {r : Int × Bool × Int} {n : Int} {x : Int → Int} {id : Int} (h : FF r n x id) : ((r.2.2 == 0 && r.2.1) && ((decide (r.1 < 0) || decide (r.1 ≥ n)) || (x r.1 != id))) = false := by
  by_cases h1 : r.2.2 = 0
  · cases h2 : r.2.1 with
    | false => simp
    | true =>
      obtain ⟨g1, g2, g3⟩ := h.ok h1 h2
      rw [decide_eq_false (by omega), decide_eq_false (by omega), g3]; simp
  · simp [h1]
theorem FF.good {r : Int × Bool × Int} {n : Int} {x : Int → Int} {id : Int} (h : FF r n x id) : (r.2.1 || r.1 == 0) = true := by
  rcases h.z with h | h <;> simp [h]
theorem gb {c : Bool} {i n : Int} (h : (c && ((decide (i < 0) || decide (i ≥ n)) == false)) = true) : 0 ≤ i ∧ i < n := by
  simp at h; omega
theorem rem_at {w : Int} (hw : 0 ≤ w) {n : Nat} (hn : 1 ≤ n) : w.tmod (n : Int) = ((w.toNat % n : Nat) : Int) ∧ w.toNat % n < n := by
  obtain ⟨c, rfl⟩ := Int.eq_ofNat_of_zero_le hw
  exact ⟨rfl, Nat.mod_lt _ (by omega)⟩
set_option maxHeartbeats 16000000 in
set_option maxRecDepth 40000 in
theorem finds_law (s : Score) (hz : s.Sized) (w : Int) (hw : 0 ≤ w ∧ w ≤ 65535) (id : Int) : PCall Tryz.prog 8 [.agg (encS s), .prim (.int .u16 w), .int id] (.b true) := by
  have hh := head_spec
  have hf := few8_spec s hz
  by_cases hfew : s.few = true
  · have hs := Score.few_small hfew
    have hv := valid8_spec s hs
    rw [hfew] at hf
    by_cases hok : scoreOk s = true
    · rw [hok] at hv
      obtain ⟨_, hb, hp, hn, _⟩ := scoreOk_parts hok
      obtain ⟨ra, la⟩ := rem_at hw.1 (barsOk_len hb)
      obtain ⟨rb, lb⟩ := rem_at hw.1 (partsOk_len hp)
      have hconv : IntKind.i64.wrap w = w := by rw [IntKind.wrap_i64]; omega
      have c1 := sBar_spec s hs (s.bars.getD (w.toNat % s.bars.length) default).id
      rw [barR_at hok la] at c1
      have c2 := sPart_spec s hs (s.parts.getD (w.toNat % s.parts.length) default).id
      rw [partR_at hok lb] at c2
      have c4 := sNote_spec s hs id
      have c5 := sBar_spec s hs id
      have f1 : FF (noteR s id) s.notes.length (fun i => (s.notes.getD i.toNat default).id) id := ff_of (fun b : Note => b.id) s.notes _ id
      have f2 : FF (barR s id) s.bars.length (fun i => (s.bars.getD i.toNat default).id) id := ff_of (fun b : Bar => b.id) s.bars _ id
      have fe : (noteR s id).2.2 = (barR s id).2.2 := by
        unfold noteR barR idR; split <;> rfl
      have lbn : (s.bars.length : Int) ≠ 0 := by have := barsOk_len hb; omega
      have lpn : (s.parts.length : Int) ≠ 0 := by have := partsOk_len hp; omega
      have b1 := f1.bad
      have b2 := f2.bad
      generalize noteR s id = nr at *
      generalize barR s id = br at *
      rw [fe] at b1
      generalize w.toNat % s.bars.length = a at *
      generalize w.toNat % s.parts.length = b at *
      clear hb hp hn hz
      by_cases hn0 : 1 ≤ s.notes.length
      · obtain ⟨rc, lc⟩ := rem_at hw.1 hn0
        have c3 := sNote_spec s hs (s.notes.getD (w.toNat % s.notes.length) default).id
        rw [noteR_at hok lc] at c3
        generalize w.toNat % s.notes.length = c at *
        have lnn : (s.notes.length : Int) ≠ 0 := by omega
        refine PCall.body Tryz.func8 rfl rfl Tryz.ntmps8 rfl rfl ?_
        repeat' (first
          | refine AOps.q rfl rfl rfl (fun hg => by first | exact PRun.remV rc lnn rfl rfl nd rfl nd | exact PRun.remV rb lpn rfl rfl nd rfl nd | exact PRun.remV ra lbn rfl rfl nd rfl nd | exact PRun.convV tabOk hconv rfl rfl nd rfl rfl | exact std0 | exact PRun.callW (hh) rfl rfl nd rfl nds | exact PRun.callW (hf) rfl rfl nd rfl nds | exact PRun.callW (hv) rfl rfl nd rfl nds | exact PRun.callW (c1) rfl rfl nd rfl nds | exact PRun.callW (c2) rfl rfl nd rfl nds | exact PRun.callW (c3) rfl rfl nd rfl nds | exact PRun.callW (c4) rfl rfl nd rfl nds | exact PRun.callW (c5) rfl rfl nd rfl nds | exact PRun.indexMW tabOk rfl rfl nd rfl nd rfl rfl (gb hg) | exact std1) (by exact rfl) ?_
          | refine AWP.seq ?_
          | refine AWP.regionK (fun K' hK => ?_)
          | (refine AOps.nil (hK _ _ ?_); clear hK K')
          | refine AOps.e (EStep.boxW rfl rfl rfl rfl rfl True.intro rfl rfl ?_)
          | refine AOps.e (EStep.storeW tabOk rfl rfl rfl True.intro rfl rfl True.intro rfl rfl rfl rfl rfl rfl rfl ?_)
          | refine AOps.e (EStep.allocW tabOk rfl rfl rfl rfl rfl rfl ?_)
          | (refine AWP.condW rfl True.intro (fun hc => ?_) (fun hc => ?_) <;> (first | (simp only [decide_eq_true_eq] at hc) | (simp only [decide_eq_false_iff_not, Int.not_lt, Int.not_le] at hc) | skip))
          | refine AWP.block ?_
          | refine AWP.exit ?_
          | refine AWP.skip ?_
          | refine AWP.ret ?_
          | refine AWP.drawK2 (by decide +kernel) (by kernel_rfl) (by decide +kernel) rfl (fun K' hK => ?_)
          | refine AWP.drawL2 (by kernel_rfl) (by decide +kernel) rfl (fun K' hK => ?_)
          | (refine AQ.nil (hK _ ?_); clear hK K')
          | refine AQ.nil ?_
          | refine AQ.q rfl rfl (fun hg => by first | exact PRun.remV rc lnn rfl rfl nd rfl nd | exact PRun.remV rb lpn rfl rfl nd rfl nd | exact PRun.remV ra lbn rfl rfl nd rfl nd | exact PRun.convV tabOk hconv rfl rfl nd rfl rfl | exact std0 | exact PRun.callW (hh) rfl rfl nd rfl nds | exact PRun.callW (hf) rfl rfl nd rfl nds | exact PRun.callW (hv) rfl rfl nd rfl nds | exact PRun.callW (c1) rfl rfl nd rfl nds | exact PRun.callW (c2) rfl rfl nd rfl nds | exact PRun.callW (c3) rfl rfl nd rfl nds | exact PRun.callW (c4) rfl rfl nd rfl nds | exact PRun.callW (c5) rfl rfl nd rfl nds | exact PRun.indexMW tabOk rfl rfl nd rfl nd rfl rfl (gb hg) | exact std1) (by exact rfl) ?_)
        · exfalso; simp at hc
        · exfalso; rw [fe] at hc; simp at hc
        · exfalso
          rw [fe] at hc
          rcases (Bool.or_eq_true _ _).mp hc with h | h
          · exact absurd (b1.symm.trans h) (by decide)
          · exact absurd (b2.symm.trans h) (by decide)
        · refine ⟨.inr rfl, Ent.b ?_⟩
          show (_ && (nr.2.1 || nr.1 == 0) && (br.2.1 || br.1 == 0)) = true
          rw [f1.good, f2.good]; simp
        all_goals (exfalso; omega)
      · refine PCall.body Tryz.func8 rfl rfl Tryz.ntmps8 rfl rfl ?_
        repeat' (first
          | refine AOps.q rfl rfl rfl (fun hg => by first | exact PRun.remV rb lpn rfl rfl nd rfl nd | exact PRun.remV ra lbn rfl rfl nd rfl nd | exact PRun.convV tabOk hconv rfl rfl nd rfl rfl | exact std0 | exact PRun.callW (hh) rfl rfl nd rfl nds | exact PRun.callW (hf) rfl rfl nd rfl nds | exact PRun.callW (hv) rfl rfl nd rfl nds | exact PRun.callW (c1) rfl rfl nd rfl nds | exact PRun.callW (c2) rfl rfl nd rfl nds | exact PRun.callW (c4) rfl rfl nd rfl nds | exact PRun.callW (c5) rfl rfl nd rfl nds | exact PRun.indexMW tabOk rfl rfl nd rfl nd rfl rfl (gb hg) | exact std1) (by exact rfl) ?_
          | refine AWP.seq ?_
          | refine AWP.regionK (fun K' hK => ?_)
          | (refine AOps.nil (hK _ _ ?_); clear hK K')
          | refine AOps.e (EStep.boxW rfl rfl rfl rfl rfl True.intro rfl rfl ?_)
          | refine AOps.e (EStep.storeW tabOk rfl rfl rfl True.intro rfl rfl True.intro rfl rfl rfl rfl rfl rfl rfl ?_)
          | refine AOps.e (EStep.allocW tabOk rfl rfl rfl rfl rfl rfl ?_)
          | (refine AWP.condW rfl True.intro (fun hc => ?_) (fun hc => ?_) <;> (first | (simp only [decide_eq_true_eq] at hc) | (simp only [decide_eq_false_iff_not, Int.not_lt, Int.not_le] at hc) | skip))
          | refine AWP.block ?_
          | refine AWP.exit ?_
          | refine AWP.skip ?_
          | refine AWP.ret ?_
          | refine AWP.drawK2 (by decide +kernel) (by kernel_rfl) (by decide +kernel) rfl (fun K' hK => ?_)
          | refine AWP.drawL2 (by kernel_rfl) (by decide +kernel) rfl (fun K' hK => ?_)
          | (refine AQ.nil (hK _ ?_); clear hK K')
          | refine AQ.nil ?_
          | refine AQ.q rfl rfl (fun hg => by first | exact PRun.remV rb lpn rfl rfl nd rfl nd | exact PRun.remV ra lbn rfl rfl nd rfl nd | exact PRun.convV tabOk hconv rfl rfl nd rfl rfl | exact std0 | exact PRun.callW (hh) rfl rfl nd rfl nds | exact PRun.callW (hf) rfl rfl nd rfl nds | exact PRun.callW (hv) rfl rfl nd rfl nds | exact PRun.callW (c1) rfl rfl nd rfl nds | exact PRun.callW (c2) rfl rfl nd rfl nds | exact PRun.callW (c4) rfl rfl nd rfl nds | exact PRun.callW (c5) rfl rfl nd rfl nds | exact PRun.indexMW tabOk rfl rfl nd rfl nd rfl rfl (gb hg) | exact std1) (by exact rfl) ?_)
        all_goals (first | (exfalso; omega) | skip)
        · exfalso; simp at hc
        · exfalso; rw [fe] at hc; simp at hc
        · exfalso
          rw [fe] at hc
          rcases (Bool.or_eq_true _ _).mp hc with h | h
          · exact absurd (b1.symm.trans h) (by decide)
          · exact absurd (b2.symm.trans h) (by decide)
        · refine ⟨.inr rfl, Ent.b ?_⟩
          show (_ && (nr.2.1 || nr.1 == 0) && (br.2.1 || br.1 == 0)) = true
          rw [f1.good, f2.good]; simp
    · have hok2 : scoreOk s = false := by simpa using hok
      rw [hok2] at hv
      refine PCall.body Tryz.func8 rfl rfl Tryz.ntmps8 rfl rfl ?_
      repeat' (first
        | refine AOps.q rfl rfl rfl (fun hg => by first | exact std0 | exact PRun.callW (hh) rfl rfl nd rfl nds | exact PRun.callW (hf) rfl rfl nd rfl nds | exact PRun.callW (hv) rfl rfl nd rfl nds | exact std1) (by exact rfl) ?_
        | refine AWP.seq ?_
        | refine AWP.regionK (fun K' hK => ?_)
        | (refine AOps.nil (hK _ _ ?_); clear hK K')
        | refine AOps.e (EStep.boxW rfl rfl rfl rfl rfl True.intro rfl rfl ?_)
        | refine AOps.e (EStep.storeW tabOk rfl rfl rfl True.intro rfl rfl True.intro rfl rfl rfl rfl rfl rfl rfl ?_)
        | refine AOps.e (EStep.allocW tabOk rfl rfl rfl rfl rfl rfl ?_)
        | (refine AWP.condW rfl True.intro (fun hc => ?_) (fun hc => ?_) <;> (first | (simp only [decide_eq_true_eq] at hc) | (simp only [decide_eq_false_iff_not, Int.not_lt, Int.not_le] at hc) | skip))
        | refine AWP.block ?_
        | refine AWP.exit ?_
        | refine AWP.skip ?_
        | refine AWP.ret ?_
        | (refine AQ.nil (hK _ ?_); clear hK K')
        | refine AQ.nil ?_
        | refine AQ.q rfl rfl (fun hg => by first | exact std0 | exact PRun.callW (hh) rfl rfl nd rfl nds | exact PRun.callW (hf) rfl rfl nd rfl nds | exact PRun.callW (hv) rfl rfl nd rfl nds | exact std1) (by exact rfl) ?_)
      · exact ⟨.inr rfl, Ent.b rfl⟩
      all_goals (exfalso; simp at hc)
  · have hfew2 : s.few = false := by simpa using hfew
    rw [hfew2] at hf
    refine PCall.body Tryz.func8 rfl rfl Tryz.ntmps8 rfl rfl ?_
    repeat' (first
      | refine AOps.q rfl rfl rfl (fun hg => by first | exact std0 | exact PRun.callW (hh) rfl rfl nd rfl nds | exact PRun.callW (hf) rfl rfl nd rfl nds | exact (Bool.noConfusion (show false = true from hg) : PRun _ _ _ _ (.b false)) | exact std1) (by exact rfl) ?_
      | refine AWP.seq ?_
      | refine AWP.regionK (fun K' hK => ?_)
      | (refine AOps.nil (hK _ _ ?_); clear hK K')
      | refine AOps.e (EStep.boxW rfl rfl rfl rfl rfl True.intro rfl rfl ?_)
      | refine AOps.e (EStep.storeW tabOk rfl rfl rfl True.intro rfl rfl True.intro rfl rfl rfl rfl rfl rfl rfl ?_)
      | refine AOps.e (EStep.allocW tabOk rfl rfl rfl rfl rfl rfl ?_)
      | (refine AWP.condW rfl True.intro (fun hc => ?_) (fun hc => ?_) <;> (first | (simp only [decide_eq_true_eq] at hc) | (simp only [decide_eq_false_iff_not, Int.not_lt, Int.not_le] at hc) | skip))
      | refine AWP.block ?_
      | refine AWP.exit ?_
      | refine AWP.skip ?_
      | refine AWP.ret ?_
      | (refine AQ.nil (hK _ ?_); clear hK K')
      | refine AQ.nil ?_
      | refine AQ.q rfl rfl (fun hg => by first | exact std0 | exact PRun.callW (hh) rfl rfl nd rfl nds | exact PRun.callW (hf) rfl rfl nd rfl nds | exact (Bool.noConfusion (show false = true from hg) : PRun _ _ _ _ (.b false)) | exact std1) (by exact rfl) ?_)
    · exact ⟨.inr rfl, Ent.b rfl⟩
    all_goals (exfalso; simp at hc)
end Go.Proofs.YtjonnpjbibgjnaaGreatDoor
