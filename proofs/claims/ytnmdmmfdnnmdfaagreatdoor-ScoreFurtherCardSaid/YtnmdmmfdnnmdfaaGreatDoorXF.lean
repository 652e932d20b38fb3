/- Texts joined: SX SM SN SR ST0 ST1 ST2 ST3 ST4 ST5 ST. No statement is proved here. -/
import Derived.Test.YtnmdmmfdnnmdfaaGreatDoorCW
import Derived.Test.YtnmdmmfdnnmdfaaGreatDoorM6
import Derived.Test.YtnmdmmfdnnmdfaaGreatDoorM3
import Derived.Test.YtnmdmmfdnnmdfaaGreatDoorSK
import Derived.Test.YtnmdmmfdnnmdfaaGreatDoorSU
set_option linter.unusedVariables false
set_option linter.unusedSimpArgs false
/- Small rules: a value told otherwise, conversions, arguments told more closely, an array that is built. No statement is proved here. -/
namespace Go.Ab
theorem PRun.eq {P : Program} {o : Oper} {env : Env} {σ : Store} {v v' : AV} (h : PRun P o env σ v) (e : v = v') : PRun P o env σ v' := e ▸ h
theorem PRun.convV {P : Program} {T : Tab} (hT : T.Ok P) {o : Oper} {env : Env} {σ : Store} {s d : TypeId} {x : Operand} {k k' : IntKind} {a r : Int} {lis : LI} {sz by' : Nat} {z : List Z} (h : k'.wrap a = r) (ho : o.op = .convert s d x) (hx : rdv env x = some (.prim (.int k a))) (nx : rdn env x) (hs' : T.get s = some lis) (hl : T.get d = some ⟨.int k', sz, by', z⟩) :
    PRun P o env σ (.prim (.int k' r)) := h ▸ PRun.convW hT ho hx nx hs' hl
theorem PRun.remV {P : Program} {o : Oper} {env : Env} {σ : Store} {t t' : TypeId} {x y : Operand} {k : IntKind} {a b r : Int} (h : a.tmod b = r) (hb : b ≠ 0) (ho : o.op = .binOp .rem t x y t') (hx : rdv env x = some (.prim (.int k a))) (nx : rdn env x) (hy : rdv env y = some (.prim (.int k b))) (ny : rdn env y) :
    PRun P o env σ (.prim (.int k r)) := h ▸ PRun.rem ho (Rd.w hx nx) (Rd.w hy ny) hb
/-- The second argument may be told more closely. -/
theorem PCall.argE2 {P : Program} {f : FuncId} {w u v : AV} {l : List AV} {r : AV} (he : Ent u v) (h : PCall P f (w :: v :: l) r) : PCall P f (w :: u :: l) r :=
  ⟨h.1, fun M W vs hm ha => h.2 M W vs hm ⟨ha.1, fun i c hi => by
    match i, hi with
    | 0, hi => exact ha.2 0 c hi
    | 1, hi =>
      have h1 := ha.2 1 u rfl
      simp at hi; subst hi
      exact he _ _ h1
    | i + 2, hi => exact ha.2 (i + 2) c hi⟩⟩
/-- An array that is built. -/
def buildAF (T : Tab) (env : Env) (t : TypeId) (parts : List (Nat × Operand)) : Option AV := match T.get t, partsF env parts with
  | some ⟨.arr _ e, _, _, zs⟩, some ps => match T.get e with
    | some le => match fillA (fun i => some (i * le.size, le.size)) (zs.map Z.av) ps with
      | some r => (forceL r).map .agg
      | none => none
    | none => none
  | _, _ => none
theorem PRun.buildAW {P : Program} {T : Tab} {o : Oper} {env : Env} {σ : Store} (hT : T.Ok P) {t : TypeId} {parts : Array (Nat × Operand)} {r : AV} (ho : o.op = .build t parts) (h : buildAF T env t parts.toList = some r) (hn : rdns env (parts.toList.map (·.2))) : PRun P o env σ r := by
  unfold buildAF at h
  split at h
  · rename_i nn e s b zs ps hg hp
    split at h
    · rename_i le he
      split at h
      · rename_i r' hf
        simp only [Option.map_eq_some_iff] at h
        obtain ⟨r2, h2, rfl⟩ := h
        rw [← forceL_eq h2]
        exact PRun.buildA ho (LOk.of (hT.get hg)) (LOk.of (hT.get he)) hp hn hf
      · simp at h
    · simp at h
  · simp at h
end Go.Ab
/- The law ScoreFinds by content. -/
namespace Go.Proofs.YtnmdmmfdnnmdfaaGreatDoor
open Go.Ab
attribute [local irreducible] AWP AOps EStep AQ PStep PRun PCall TCall VCall

theorem scoreOk_parts {s : Score} (h : scoreOk s = true) : inB s.version 1 1000000 = true ∧ barsOk s.bars = true ∧ partsOk s.parts = true ∧ notesOk s.bars s.notes = true ∧ wrongR s.parts s.notes = 0 := by
  unfold scoreOk scoreBad at h
  simp only [Bool.and_eq_true, Bool.not_eq_true', Bool.or_eq_false_iff, Bool.not_eq_false', bne_eq_false_iff_eq] at h
  exact ⟨h.1.1.1.1.1, h.1.1.1.1.2, h.1.1.1.2, h.1.1.2, h.1.2⟩
theorem barsOk_len {l : List Bar} (h : barsOk l = true) : 1 ≤ l.length := by
  unfold barsOk at h; simp only [Bool.and_eq_true, decide_eq_true_eq] at h; exact h.1.2
theorem partsOk_len {l : List Part} (h : partsOk l = true) : 1 ≤ l.length := by
  unfold partsOk inB at h; simp only [Bool.and_eq_true, decide_eq_true_eq] at h; omega
theorem findI_id {α : Type} [Inhabited α] (f : α → Int) {l : List α} (hn : (l.map f).Nodup) {i : Nat} (hi : i < l.length) : findI (fun x => f x == f (l.getD i default)) l = i :=
  findI_at hi (by simp) fun j hj => by
    have : f (l.getD j default) ≠ f (l.getD i default) := fun e => by
      have := nodup_at f hn (show j < l.length by omega) hi e
      omega
    simpa using this
theorem idR_at {ok : Bool} {i : Nat} (h : ok = true) : idR ok (i : Int) = ((i : Int), true, 0) := by
  unfold idR idxR; rw [if_pos h]; simp
theorem barR_at {s : Score} (h : scoreOk s = true) {i : Nat} (hi : i < s.bars.length) : barR s (s.bars.getD i default).id = ((i : Int), true, 0) := by
  obtain ⟨_, hb, _, _, _⟩ := scoreOk_parts h
  unfold barR
  rw [findI_id (fun b : Bar => b.id) (barsOk_nodup hb) hi]
  refine idR_at ?_
  unfold askedB; rw [h, Bool.true_and]
  unfold barsOk at hb
  simp only [Bool.and_eq_true, List.all_eq_true] at hb
  have := all_mem hb.1.1.1 hi
  unfold barOk barA at this
  simp only [Bool.and_eq_true, Bool.not_eq_true', Bool.or_eq_false_iff, decide_eq_false_iff_not] at this
  simp only [inB, Bool.and_eq_true, decide_eq_true_eq]; omega
theorem partR_at {s : Score} (h : scoreOk s = true) {i : Nat} (hi : i < s.parts.length) : partR s (s.parts.getD i default).id = ((i : Int), true, 0) := by
  obtain ⟨_, _, hp, _, _⟩ := scoreOk_parts h
  unfold partR
  rw [findI_id (fun b : Part => b.id) (partsOk_nodup hp) hi]
  refine idR_at ?_
  unfold askedB; rw [h, Bool.true_and]
  have := all_mem (partsOk_all hp) hi
  unfold partOk partBad partNums at this
  simp only [Bool.and_eq_true, Bool.not_eq_true', Bool.or_eq_false_iff, Bool.not_eq_false'] at this
  exact this.1.1.1.1.1.1.1.1
theorem noteOk_in {bars : List Bar} {n : Note} (h : noteOk bars n = true) : noteIn n := by
  unfold noteOk at h
  split at h
  · unfold nformed noteForm at h
    simp only [Bool.and_eq_true, inB, decide_eq_true_eq] at h
    unfold noteIn; omega
  · cases h
theorem noteR_at {s : Score} (h : scoreOk s = true) {i : Nat} (hi : i < s.notes.length) : noteR s (s.notes.getD i default).id = ((i : Int), true, 0) := by
  obtain ⟨_, _, _, hn, _⟩ := scoreOk_parts h
  unfold noteR
  rw [findI_id (fun b : Note => b.id) (notesOk_nodup hn) hi]
  refine idR_at ?_
  unfold askedB; rw [h, Bool.true_and]
  have := noteOk_in (all_mem (notesOk_all hn).2.2 hi)
  unfold noteIn at this
  simp only [inB, Bool.and_eq_true, decide_eq_true_eq]; omega
/-- What an index and its error say. -/
structure FF (r : Int × Bool × Int) (n : Int) (x : Int → Int) (id : Int) : Prop where
  ok : r.2.2 = 0 → r.2.1 = true → 0 ≤ r.1 ∧ r.1 < n ∧ x r.1 = id
  z : r.2.1 = true ∨ r.1 = 0
theorem ff_of {α : Type} [Inhabited α] (f : α → Int) (l : List α) (ok : Bool) (id : Int) : FF (idR ok (findI (fun x => f x == id) l)) l.length (fun i => f (l.getD i.toNat default)) id := by
  unfold idR idxR
  by_cases h : findI (fun x => f x == id) l ≥ 0
  · obtain ⟨k, h1, h2, h3, _⟩ := findI_lt h
    rw [h1]
    cases ok
    · exact ⟨fun h => by simp at h, .inr rfl⟩
    · refine ⟨fun _ _ => ?_, .inl (by simp)⟩
      have e : max (k : Int) 0 = k := by omega
      simp only [if_true, e]
      exact ⟨by omega, by omega, by simpa using h3⟩
  · have h2 := findI_neg.1 (show findI (fun x => f x == id) l < 0 by omega)
    rw [h2]
    cases ok
    · exact ⟨fun h => by simp at h, .inr rfl⟩
    · exact ⟨fun _ h => by simp at h, .inr rfl⟩
theorem FF.bad {r : Int × Bool × Int} {n : Int} {x : Int → Int} {id : Int} (h : FF r n x id) : ((r.2.2 == 0 && r.2.1) && ((decide (r.1 < 0) || decide (r.1 ≥ n)) || (x r.1 != id))) = false := by
  by_cases h1 : r.2.2 = 0
  · cases h2 : r.2.1 with
    | false => simp
    | true =>
      obtain ⟨g1, g2, g3⟩ := h.ok h1 h2
      rw [decide_eq_false (by omega), decide_eq_false (by omega), g3]; simp
  · simp [h1]
theorem FF.good {r : Int × Bool × Int} {n : Int} {x : Int → Int} {id : Int} (h : FF r n x id) : (r.2.1 || r.1 == 0) = true := by
  rcases h.z with h | h <;> simp [h]
theorem gb {c : Bool} {i n : Int} (h : (c && ((decide (i < 0) || decide (i ≥ n)) == false)) = true) : 0 ≤ i ∧ i < n := by
  simp at h; omega
theorem rem_at {w : Int} (hw : 0 ≤ w) {n : Nat} (hn : 1 ≤ n) : w.tmod (n : Int) = ((w.toNat % n : Nat) : Int) ∧ w.toNat % n < n := by
  obtain ⟨c, rfl⟩ := Int.eq_ofNat_of_zero_le hw
  exact ⟨rfl, Nat.mod_lt _ (by omega)⟩
end Go.Proofs.YtnmdmmfdnnmdfaaGreatDoor
/- The law ScoreWith by content. -/
namespace Go.Proofs.YtnmdmmfdnnmdfaaGreatDoor
open Go.Ab
attribute [local irreducible] AWP AOps EStep AQ PStep PRun PCall TCall VCall

def rvN (l : List Note) (k : Nat) : List Note := (l.drop (l.length - k)).reverse
theorem rvN_succ {l : List Note} {k : Nat} (h : k < l.length) : rvN l (k + 1) = rvN l k ++ [l.getD (l.length - 1 - k) default] := by
  unfold rvN
  rw [show l.length - (k + 1) = l.length - 1 - k by omega, List.drop_eq_getElem_cons (by omega : l.length - 1 - k < l.length), List.reverse_cons, getD_lt (by omega), show l.length - 1 - k + 1 = l.length - k by omega]
theorem rvN_len {l : List Note} {k : Nat} (h : k ≤ l.length) : (rvN l k).length = k := by unfold rvN; simp; omega
theorem no_valid : scoreOk noScore = false := by rw [scoreOk_eq]; decide +kernel
end Go.Proofs.YtnmdmmfdnnmdfaaGreatDoor
/- The law ScorePlays by content. -/
namespace Go.Proofs.YtnmdmmfdnnmdfaaGreatDoor
open Go.Ab
attribute [local irreducible] AWP AOps EStep AQ PStep PRun PCall TCall VCall

theorem plays_at {s : Score} (h : scoreOk s = true) {k : Nat} (hk : k < s.parts.length) : playsR s (s.parts.getD k default).id = (playedL s.notes (s.parts.getD k default), 0) := by
  obtain ⟨_, _, h3, _, _, _⟩ := score_facts h
  unfold playsR
  rw [if_pos h, findI_id (fun b : Part => b.id) (partsOk_nodup h3) hk, if_pos (Int.natCast_nonneg k), Int.toNat_natCast]
theorem part_oct {s : Score} (h : scoreOk s = true) : ∀ p ∈ s.parts, -2 ≤ p.octave ∧ p.octave ≤ 2 := fun p hp => by
  obtain ⟨_, _, h3, _, _, _⟩ := score_facts h
  have h7 := partsOk_all h3 p hp
  unfold partOk partBad partNums at h7
  simp only [Bool.and_eq_true, Bool.not_eq_true', Bool.or_eq_false_iff, Bool.not_eq_false'] at h7
  have := h7.1.1.1.1.1.2
  simp only [inB, Bool.and_eq_true, decide_eq_true_eq] at this
  omega
theorem higher_ok (p : Part) (n : Note) : soundR (playN p n).pitch - soundR n.pitch = 12 * p.octave := by
  unfold playN soundR; dsimp only; omega
end Go.Proofs.YtnmdmmfdnnmdfaaGreatDoor
/- The law ScoreFurther by content: the loop's round, where the part is another one. -/
namespace Go.Ab
theorem gOf_at {ops : Array Oper} {o : Oper} {env : Env} {j d : Nat} {want t : Bool} (h1 : o.guard = some (j, want)) (h2 : (ops[j]?).bind (·.dst) = some d) (h3 : env d = .prim (.bool t)) : gOf ops env o = some (.yes (t == want)) := by
  unfold gOf; rw [h1]; simp only; rw [h2]; simp only; rw [h3]
/-- The first loop's body in a code. -/
def loopIn : Code → Option Code
  | .loop c => some c
  | .seq a b => match loopIn a with | some c => some c | none => loopIn b
  | .cond _ a b => match loopIn a with | some c => some c | none => loopIn b
  | .block _ c => loopIn c
  | _ => none
end Go.Ab
namespace Go.Proofs.YtnmdmmfdnnmdfaaGreatDoor
open Go.Ab
attribute [local irreducible] AWP AOps EStep AQ PStep PRun PCall TCall VCall
set_option maxRecDepth 40000

theorem flRt : flatN Tryz.prog 28 = some [.int .i64, .int .i64] := by kernel_rfl
/-- The loop of the law: its body, slots, objects. -/
noncomputable def furBody : Code := ((Tryz.f3.body).bind loopIn).getD .skip
abbrev furE (s : Score) (k : Nat) : List (Nat × AV) := [(2, .ptr 0 0), (3, .ptr 1 0), (5, .b true), (6, .ptr 3 0), (49, .sl 13 (s.parts.map encP) .no), (50, .int s.parts.length), (51, .int k)]
abbrev furS (s t : Score) (n : Note) : Store := [.var (encS s), .var (encN n), .own 12 (List.map encN s.notes ++ [encN n]).length, .var (encS t)]
abbrev furInv (s : Score) (k : Nat) : Prop := k ≤ s.parts.length
abbrev furMu (s : Score) (k : Nat) : Nat := s.parts.length - k
set_option maxHeartbeats 16000000 in
theorem fur_other (s t : Score) (n : Note) (p : Part) (k : Nat) (A B : List Note) (hlt : k < s.parts.length) (hps : s.parts.length ≤ 1000000000) (hp : s.parts.getD k default = p)
    (hpl : PCall Tryz.prog 9 [.agg (encS s), .int p.id] (.tup [.sl 12 (A.map encN) .no, .int 0])) (hpt : PCall Tryz.prog 9 [.agg (encS t), .int p.id] (.tup [.sl 12 (B.map encN) .no, .int 0])) (hne : n.part ≠ srcOf p) (ca : PCall Tryz.prog 11 [.sl 12 (A.map encN) .no, .sl 12 (B.map encN) .no] (.b true)) {K : Exit → Env → Store → Prop} :
    AWP Tryz.prog 137 furBody (thenK (fun e σ => ∃ j, furInv s j ∧ furMu s j < furMu s k ∧ WeakL e (furE s j) ∧ σ.take 4 = furS s t n) K) (Env.of (furE s k)) (furS s t n) := by
  have hsrc := source_spec p
  have h14 : (srcOf p != n.part) = true := by simpa using fun h => hne h.symm
  repeat' (first | refine AOps.q rfl rfl rfl (fun hg => by first | exact PRun.eq (v := .iptr (encP (s.parts.getD ((k : Nat) : Int).toNat default))) (PRun.indexMW tabOk rfl rfl nd rfl nd rfl rfl (by omega)) (congrArg (fun x => AV.iptr (encP x)) hp) | exact std0 | exact PRun.callW (hpl) rfl rfl nd rfl nds | exact PRun.callW (hpt) rfl rfl nd rfl nds | exact PRun.callW (hsrc) rfl rfl nd rfl nds | exact PRun.callW (ca) rfl rfl nd rfl nds | exact std1) (by exact rfl) ?_ | refine AWP.seq ?_ | refine AWP.regionK (fun K' hK => ?_) | (refine AOps.nil (hK _ _ ?_); clear hK K') | refine AOps.e (EStep.boxW rfl rfl rfl rfl rfl True.intro rfl rfl ?_) | refine AOps.e (EStep.storeW tabOk rfl rfl rfl True.intro rfl rfl True.intro rfl rfl rfl rfl rfl rfl rfl ?_) | refine AOps.e (EStep.allocW tabOk rfl rfl rfl rfl rfl rfl ?_) | (refine AWP.condW rfl True.intro (fun hc => ?_) (fun hc => ?_) <;> (first | (simp only [decide_eq_true_eq] at hc) | (simp only [decide_eq_false_iff_not, Int.not_lt, Int.not_le] at hc) | skip)) | refine AWP.block ?_ | refine AWP.exit ?_ | refine AWP.skip ?_ | refine AWP.ret ?_ | refine AWP.drawK2 (by decide +kernel) (by kernel_rfl) (by decide +kernel) rfl (fun K' hK => ?_) | refine AWP.drawL2 (by kernel_rfl) (by decide +kernel) rfl (fun K' hK => ?_) | (refine AQ.nil (hK _ ?_); clear hK K') | refine AQ.nil ?_ | refine AQ.q rfl rfl (fun hg => by first | exact PRun.eq (v := .iptr (encP (s.parts.getD ((k : Nat) : Int).toNat default))) (PRun.indexMW tabOk rfl rfl nd rfl nd rfl rfl (by omega)) (congrArg (fun x => AV.iptr (encP x)) hp) | exact std0 | exact PRun.callW (hpl) rfl rfl nd rfl nds | exact PRun.callW (hpt) rfl rfl nd rfl nds | exact PRun.callW (hsrc) rfl rfl nd rfl nds | exact PRun.callW (ca) rfl rfl nd rfl nds | exact std1) (by exact rfl) ?_)
  all_goals (first | (exfalso; omega) | exact absurd (hc.symm.trans h14) (by decide) | (rename_i hc1; exact absurd (hc1.symm.trans h14) (by decide)) | (exfalso; revert hc; simp; done) | skip)
  exact ⟨k + 1, by show k + 1 ≤ s.parts.length; omega, by show s.parts.length - (k + 1) < s.parts.length - k; omega, ⟨rfl, rfl, rfl, rfl, rfl, rfl, rfl, True.intro⟩, rfl⟩
end Go.Proofs.YtnmdmmfdnnmdfaaGreatDoor
/- The law ScoreFurther by content: the loop's round, where the part is its own (fur_empty). -/
namespace Go.Proofs.YtnmdmmfdnnmdfaaGreatDoor
open Go.Ab
attribute [local irreducible] AWP AOps EStep AQ PStep PRun PCall TCall VCall
set_option maxRecDepth 40000
set_option maxHeartbeats 32000000 in
theorem fur_empty (s t : Score) (n : Note) (p : Part) (k : Nat) (A B : List Note) (hlt : k < s.parts.length) (hps : s.parts.length ≤ 1000000000) (hp : s.parts.getD k default = p)
    (hpl : PCall Tryz.prog 9 [.agg (encS s), .int p.id] (.tup [.sl 12 (A.map encN) .no, .int 0])) (hpt : PCall Tryz.prog 9 [.agg (encS t), .int p.id] (.tup [.sl 12 (B.map encN) .no, .int 0])) (hpart : n.part = srcOf p) (cn : PCall Tryz.prog 12 [.sl 12 (B.map encN) .no, .int n.id] (.int ((0 : Nat) : Int))) (hB : B.length ≤ 60) (m2 : 0 < B.length) (m3 : B.length = A.length + 1) (m5 : B.getD (((0 : Nat) : Int)).toNat default = playN p n) (hd0 : B.drop (((0 : Nat) : Int) + 1).toNat = [])
    (cs : PCall Tryz.prog 11 [.sl 12 ([]) .no, .sl 12 (A.map encN) .no] (.b true)) {K : Exit → Env → Store → Prop} :
    AWP Tryz.prog 137 furBody (thenK (fun e σ => ∃ j, furInv s j ∧ furMu s j < furMu s k ∧ WeakL e (furE s j) ∧ σ.take 4 = furS s t n) K) (Env.of (furE s k)) (furS s t n) := by
  have hsrc := source_spec p
  have h14 : (srcOf p != n.part) = false := by rw [hpart]; simp
  have h17 : (decide (((0 : Nat) : Int) < 0) || ((B.length : Int) != (A.length : Int) + 1)) = false := by
    rw [decide_eq_false (by omega)]; simp; omega
  repeat' (first | refine AOps.q rfl rfl rfl (fun hg => by first | exact PRun.eq (v := .iptr (encP (s.parts.getD ((k : Nat) : Int).toNat default))) (PRun.indexMW tabOk rfl rfl nd rfl nd rfl rfl (by omega)) (congrArg (fun x => AV.iptr (encP x)) hp) | exact std0 | exact PRun.callW (hpl) rfl rfl nd rfl nds | exact PRun.callW (hpt) rfl rfl nd rfl nds | exact PRun.callW (hsrc) rfl rfl nd rfl nds | exact PRun.callW (cn) rfl rfl nd rfl nds | exact std1) (by exact rfl) ?_ | refine AWP.seq ?_ | refine AWP.regionK (fun K' hK => ?_) | (refine AOps.nil (hK _ _ ?_); clear hK K') | refine AOps.e (EStep.boxW rfl rfl rfl rfl rfl True.intro rfl rfl ?_) | refine AOps.e (EStep.storeW tabOk rfl rfl rfl True.intro rfl rfl True.intro rfl rfl rfl rfl rfl rfl rfl ?_) | refine AOps.e (EStep.allocW tabOk rfl rfl rfl rfl rfl rfl ?_) | (refine AWP.condW rfl True.intro (fun hc => ?_) (fun hc => ?_) <;> (first | (simp only [decide_eq_true_eq] at hc) | (simp only [decide_eq_false_iff_not, Int.not_lt, Int.not_le] at hc) | skip)) | refine AWP.block ?_ | refine AWP.exit ?_ | refine AWP.skip ?_ | refine AWP.ret ?_ | refine AWP.drawK2 (by decide +kernel) (by kernel_rfl) (by decide +kernel) rfl (fun K' hK => ?_) | refine AWP.drawL2 (by kernel_rfl) (by decide +kernel) rfl (fun K' hK => ?_) | (refine AQ.nil (hK _ ?_); clear hK K') | refine AQ.nil ?_ | refine AQ.q rfl rfl (fun hg => by first | exact PRun.eq (v := .iptr (encP (s.parts.getD ((k : Nat) : Int).toNat default))) (PRun.indexMW tabOk rfl rfl nd rfl nd rfl rfl (by omega)) (congrArg (fun x => AV.iptr (encP x)) hp) | exact std0 | exact PRun.callW (hpl) rfl rfl nd rfl nds | exact PRun.callW (hpt) rfl rfl nd rfl nds | exact PRun.callW (hsrc) rfl rfl nd rfl nds | exact PRun.callW (cn) rfl rfl nd rfl nds | exact std1) (by exact rfl) ?_)
  all_goals (first | (exfalso; omega) | exact absurd (h14.symm.trans hc) (by decide) | exact absurd (h17.symm.trans hc) (by decide) | (exfalso; revert hc; simp; done) | skip)
  refine AWP.newOwn 12 ?_
  refine AWP.drawW clsA (fun j1 _ => [.var (encS s), .var (encN n), .own 12 (List.map encN s.notes ++ [encN n]).length, .var (encS t), .var (encP p)] ++ [.own 12 0]) rfl (by kernel_rfl) (by decide +kernel) rfl (by decide +kernel) (fun K' hK => ?_)
  repeat' (first
    | refine WQ.q rfl (by decide +kernel) rfl rfl (fun k1 k2 h1 h2 hg => by first | (first | exact PRun.eq (v := .iptr (encN (B.getD ((0 : Nat) : Int).toNat default))) (PRun.indexMW tabOk rfl rfl nd rfl nd rfl rfl (by omega)) (congrArg (fun x => AV.iptr (encN x)) m5) | exact std0 | exact PRun.buildSl0 tabOk rfl rfl | exact PRun.sliceLoM tabOk rfl rfl nd rfl nd rfl (by omega) | exact PRun.sliceHiM tabOk rfl rfl nd rfl nd rfl (by omega) | exact PRun.sliceM tabOk rfl rfl nd rfl nd rfl nd rfl (by omega) | exact PRun.eqN flRt rfl rfl nd rfl nd rfl | exact PRun.callW (cs) rfl rfl nd rfl nds | exact std1) | ((have a1 : k1 = 0 ∨ k1 = 1 ∨ k1 = 2 := (by omega)); (rcases a1 with rfl | rfl | rfl) <;> (first | exact PRun.eq (v := .iptr (encN (B.getD ((0 : Nat) : Int).toNat default))) (PRun.indexMW tabOk rfl rfl nd rfl nd rfl rfl (by omega)) (congrArg (fun x => AV.iptr (encN x)) m5) | exact std0 | exact PRun.buildSl0 tabOk rfl rfl | exact PRun.sliceLoM tabOk rfl rfl nd rfl nd rfl (by omega) | exact PRun.sliceHiM tabOk rfl rfl nd rfl nd rfl (by omega) | exact PRun.sliceM tabOk rfl rfl nd rfl nd rfl nd rfl (by omega) | exact PRun.eqN flRt rfl rfl nd rfl nd rfl | exact PRun.callW (cs) rfl rfl nd rfl nds | exact std1)) | ((have a1 : k1 = 0 ∨ k1 = 1 ∨ k1 = 2 := (by omega)); (have a2 : k2 = 0 ∨ k2 = 1 ∨ k2 = 2 := (by omega)); (rcases a1 with rfl | rfl | rfl) <;> (rcases a2 with rfl | rfl | rfl) <;> (first | exact PRun.eq (v := .iptr (encN (B.getD ((0 : Nat) : Int).toNat default))) (PRun.indexMW tabOk rfl rfl nd rfl nd rfl rfl (by omega)) (congrArg (fun x => AV.iptr (encN x)) m5) | exact std0 | exact PRun.buildSl0 tabOk rfl rfl | exact PRun.sliceLoM tabOk rfl rfl nd rfl nd rfl (by omega) | exact PRun.sliceHiM tabOk rfl rfl nd rfl nd rfl (by omega) | exact PRun.sliceM tabOk rfl rfl nd rfl nd rfl nd rfl (by omega) | exact PRun.eqN flRt rfl rfl nd rfl nd rfl | exact PRun.callW (cs) rfl rfl nd rfl nds | exact std1))) (by exact rfl) ?_)
  refine WQ.e1 0 (v := .sl 12 [] .fresh) (d := some 106) rfl (by decide +kernel) rfl ?_ ?_
  · intro env' he k2 hk2
    exact EStep.gd (gOf_at rfl rfl ((he 101 (by decide +kernel)).trans rfl)) rfl (EStep.appendE tabOk rfl rfl rfl (by decide) (Rd.w ((rdv_congr (he 102 (by decide +kernel))).trans rfl) (by rw [rdn_congr (he 102 (by decide +kernel))]; first | exact True.intro | exact rfl)) (Rd.w ((rdv_congr (he 105 (by decide +kernel))).trans rfl) (by rw [rdn_congr (he 105 (by decide +kernel))]; first | exact True.intro | exact rfl)) (.sl (es := []) rfl (one_encN [])) (LOk.of (tabOk.get rfl)) (LOk.of (tabOk.get rfl)) rfl ⟨rfl, rfl⟩)
  repeat' (first
    | refine WQ.q rfl (by decide +kernel) rfl rfl (fun k1 k2 h1 h2 hg => by first | (first | exact PRun.eq (v := .iptr (encN (B.getD ((0 : Nat) : Int).toNat default))) (PRun.indexMW tabOk rfl rfl nd rfl nd rfl rfl (by omega)) (congrArg (fun x => AV.iptr (encN x)) m5) | exact std0 | exact PRun.buildSl0 tabOk rfl rfl | exact PRun.sliceLoM tabOk rfl rfl nd rfl nd rfl (by omega) | exact PRun.sliceHiM tabOk rfl rfl nd rfl nd rfl (by omega) | exact PRun.sliceM tabOk rfl rfl nd rfl nd rfl nd rfl (by omega) | exact PRun.eqN flRt rfl rfl nd rfl nd rfl | exact PRun.callW (cs) rfl rfl nd rfl nds | exact std1) | ((have a1 : k1 = 0 ∨ k1 = 1 ∨ k1 = 2 := (by omega)); (rcases a1 with rfl | rfl | rfl) <;> (first | exact PRun.eq (v := .iptr (encN (B.getD ((0 : Nat) : Int).toNat default))) (PRun.indexMW tabOk rfl rfl nd rfl nd rfl rfl (by omega)) (congrArg (fun x => AV.iptr (encN x)) m5) | exact std0 | exact PRun.buildSl0 tabOk rfl rfl | exact PRun.sliceLoM tabOk rfl rfl nd rfl nd rfl (by omega) | exact PRun.sliceHiM tabOk rfl rfl nd rfl nd rfl (by omega) | exact PRun.sliceM tabOk rfl rfl nd rfl nd rfl nd rfl (by omega) | exact PRun.eqN flRt rfl rfl nd rfl nd rfl | exact PRun.callW (cs) rfl rfl nd rfl nds | exact std1)) | ((have a1 : k1 = 0 ∨ k1 = 1 ∨ k1 = 2 := (by omega)); (have a2 : k2 = 0 ∨ k2 = 1 ∨ k2 = 2 := (by omega)); (rcases a1 with rfl | rfl | rfl) <;> (rcases a2 with rfl | rfl | rfl) <;> (first | exact PRun.eq (v := .iptr (encN (B.getD ((0 : Nat) : Int).toNat default))) (PRun.indexMW tabOk rfl rfl nd rfl nd rfl rfl (by omega)) (congrArg (fun x => AV.iptr (encN x)) m5) | exact std0 | exact PRun.buildSl0 tabOk rfl rfl | exact PRun.sliceLoM tabOk rfl rfl nd rfl nd rfl (by omega) | exact PRun.sliceHiM tabOk rfl rfl nd rfl nd rfl (by omega) | exact PRun.sliceM tabOk rfl rfl nd rfl nd rfl nd rfl (by omega) | exact PRun.eqN flRt rfl rfl nd rfl nd rfl | exact PRun.callW (cs) rfl rfl nd rfl nds | exact std1))) (by exact rfl) ?_)
  refine WQ.e1 0 (v := .sl 12 [] .fresh) (d := some 111) rfl (by decide +kernel) rfl ?_ ?_
  · intro env' he k2 hk2
    exact EStep.gd (gOf_at rfl rfl ((he 101 (by decide +kernel)).trans rfl)) rfl (EStep.appendE tabOk rfl rfl rfl (by decide) (Rd.w ((rdv_congr (he 106 (by decide +kernel))).trans rfl) (by rw [rdn_congr (he 106 (by decide +kernel))]; first | exact True.intro | exact rfl)) (Rd.w ((rdv_congr (he 110 (by decide +kernel))).trans (congrArg (fun x => some (AV.sl 12 (List.map encN x) Tok.no)) hd0)) (by rw [rdn_congr (he 110 (by decide +kernel))]; first | exact True.intro | exact rfl)) (.sl (es := []) rfl (one_encN [])) (LOk.of (tabOk.get rfl)) (LOk.of (tabOk.get rfl)) rfl ⟨rfl, rfl⟩)
  repeat' (first
    | refine WQ.q rfl (by decide +kernel) rfl rfl (fun k1 k2 h1 h2 hg => by first | (first | exact PRun.eq (v := .iptr (encN (B.getD ((0 : Nat) : Int).toNat default))) (PRun.indexMW tabOk rfl rfl nd rfl nd rfl rfl (by omega)) (congrArg (fun x => AV.iptr (encN x)) m5) | exact std0 | exact PRun.buildSl0 tabOk rfl rfl | exact PRun.sliceLoM tabOk rfl rfl nd rfl nd rfl (by omega) | exact PRun.sliceHiM tabOk rfl rfl nd rfl nd rfl (by omega) | exact PRun.sliceM tabOk rfl rfl nd rfl nd rfl nd rfl (by omega) | exact PRun.eqN flRt rfl rfl nd rfl nd rfl | exact PRun.callW (cs) rfl rfl nd rfl nds | exact std1) | ((have a1 : k1 = 0 ∨ k1 = 1 ∨ k1 = 2 := (by omega)); (rcases a1 with rfl | rfl | rfl) <;> (first | exact PRun.eq (v := .iptr (encN (B.getD ((0 : Nat) : Int).toNat default))) (PRun.indexMW tabOk rfl rfl nd rfl nd rfl rfl (by omega)) (congrArg (fun x => AV.iptr (encN x)) m5) | exact std0 | exact PRun.buildSl0 tabOk rfl rfl | exact PRun.sliceLoM tabOk rfl rfl nd rfl nd rfl (by omega) | exact PRun.sliceHiM tabOk rfl rfl nd rfl nd rfl (by omega) | exact PRun.sliceM tabOk rfl rfl nd rfl nd rfl nd rfl (by omega) | exact PRun.eqN flRt rfl rfl nd rfl nd rfl | exact PRun.callW (cs) rfl rfl nd rfl nds | exact std1)) | ((have a1 : k1 = 0 ∨ k1 = 1 ∨ k1 = 2 := (by omega)); (have a2 : k2 = 0 ∨ k2 = 1 ∨ k2 = 2 := (by omega)); (rcases a1 with rfl | rfl | rfl) <;> (rcases a2 with rfl | rfl | rfl) <;> (first | exact PRun.eq (v := .iptr (encN (B.getD ((0 : Nat) : Int).toNat default))) (PRun.indexMW tabOk rfl rfl nd rfl nd rfl rfl (by omega)) (congrArg (fun x => AV.iptr (encN x)) m5) | exact std0 | exact PRun.buildSl0 tabOk rfl rfl | exact PRun.sliceLoM tabOk rfl rfl nd rfl nd rfl (by omega) | exact PRun.sliceHiM tabOk rfl rfl nd rfl nd rfl (by omega) | exact PRun.sliceM tabOk rfl rfl nd rfl nd rfl nd rfl (by omega) | exact PRun.eqN flRt rfl rfl nd rfl nd rfl | exact PRun.callW (cs) rfl rfl nd rfl nds | exact std1))) (by exact rfl) ?_)
  refine WQ.nil (hK _ _ _ ?_)
  clear hK K'
  show AWP _ _ _ _ _ _
  refine AWP.keep [(2, .ptr 0 0), (3, .ptr 1 0), (5, .b true), (6, .ptr 3 0), (49, .sl 13 (s.parts.map encP) .no), (50, .int s.parts.length), (51, .int k)] ⟨rfl, rfl, (by show AV.b _ = AV.b true; congr 1; simp [playN]), rfl, rfl, rfl, rfl, True.intro⟩ ?_
  repeat' (first | refine AOps.q rfl rfl rfl (fun hg => by first | exact std0 | exact std1) (by exact rfl) ?_ | refine AWP.seq ?_ | refine AWP.regionK (fun K' hK => ?_) | (refine AOps.nil (hK _ _ ?_); clear hK K') | refine AOps.e (EStep.boxW rfl rfl rfl rfl rfl True.intro rfl rfl ?_) | refine AOps.e (EStep.storeW tabOk rfl rfl rfl True.intro rfl rfl True.intro rfl rfl rfl rfl rfl rfl rfl ?_) | refine AOps.e (EStep.allocW tabOk rfl rfl rfl rfl rfl rfl ?_) | (refine AWP.condW rfl True.intro (fun hc => ?_) (fun hc => ?_) <;> (first | (simp only [decide_eq_true_eq] at hc) | (simp only [decide_eq_false_iff_not, Int.not_lt, Int.not_le] at hc) | skip)) | refine AWP.block ?_ | refine AWP.exit ?_ | refine AWP.skip ?_ | refine AWP.ret ?_ | refine AWP.drawK2 (by decide +kernel) (by kernel_rfl) (by decide +kernel) rfl (fun K' hK => ?_) | refine AWP.drawL2 (by kernel_rfl) (by decide +kernel) rfl (fun K' hK => ?_) | (refine AQ.nil (hK _ ?_); clear hK K') | refine AQ.nil ?_ | refine AQ.q rfl rfl (fun hg => by first | exact std0 | exact std1) (by exact rfl) ?_)
  exact ⟨k + 1, by show k + 1 ≤ s.parts.length; omega, by show s.parts.length - (k + 1) < s.parts.length - k; omega, ⟨rfl, rfl, rfl, rfl, rfl, rfl, rfl, True.intro⟩, rfl⟩
end Go.Proofs.YtnmdmmfdnnmdfaaGreatDoor
/- The law ScoreFurther by content: the loop's round, where the part is its own (fur_at). -/
namespace Go.Proofs.YtnmdmmfdnnmdfaaGreatDoor
open Go.Ab
attribute [local irreducible] AWP AOps EStep AQ PStep PRun PCall TCall VCall
set_option maxRecDepth 40000
set_option maxHeartbeats 32000000 in
theorem fur_at (s t : Score) (n : Note) (p : Part) (k : Nat) (A B : List Note) (hlt : k < s.parts.length) (hps : s.parts.length ≤ 1000000000) (hp : s.parts.getD k default = p)
    (hpl : PCall Tryz.prog 9 [.agg (encS s), .int p.id] (.tup [.sl 12 (A.map encN) .no, .int 0])) (hpt : PCall Tryz.prog 9 [.agg (encS t), .int p.id] (.tup [.sl 12 (B.map encN) .no, .int 0])) (hpart : n.part = srcOf p) (cn : PCall Tryz.prog 12 [.sl 12 (B.map encN) .no, .int n.id] (.int ((0 : Nat) : Int))) (hB : B.length ≤ 60) (m2 : 0 < B.length) (m3 : B.length = A.length + 1) (m5 : B.getD (((0 : Nat) : Int)).toNat default = playN p n) (hd1 : 1 < B.length)
    (cs : PCall Tryz.prog 11 [.sl 12 ((B.drop (((0 : Nat) : Int) + 1).toNat).map encN) .no, .sl 12 (A.map encN) .no] (.b true)) {K : Exit → Env → Store → Prop} :
    AWP Tryz.prog 137 furBody (thenK (fun e σ => ∃ j, furInv s j ∧ furMu s j < furMu s k ∧ WeakL e (furE s j) ∧ σ.take 4 = furS s t n) K) (Env.of (furE s k)) (furS s t n) := by
  have hsrc := source_spec p
  have h14 : (srcOf p != n.part) = false := by rw [hpart]; simp
  have h17 : (decide (((0 : Nat) : Int) < 0) || ((B.length : Int) != (A.length : Int) + 1)) = false := by
    rw [decide_eq_false (by omega)]; simp; omega
  repeat' (first | refine AOps.q rfl rfl rfl (fun hg => by first | exact PRun.eq (v := .iptr (encP (s.parts.getD ((k : Nat) : Int).toNat default))) (PRun.indexMW tabOk rfl rfl nd rfl nd rfl rfl (by omega)) (congrArg (fun x => AV.iptr (encP x)) hp) | exact std0 | exact PRun.callW (hpl) rfl rfl nd rfl nds | exact PRun.callW (hpt) rfl rfl nd rfl nds | exact PRun.callW (hsrc) rfl rfl nd rfl nds | exact PRun.callW (cn) rfl rfl nd rfl nds | exact std1) (by exact rfl) ?_ | refine AWP.seq ?_ | refine AWP.regionK (fun K' hK => ?_) | (refine AOps.nil (hK _ _ ?_); clear hK K') | refine AOps.e (EStep.boxW rfl rfl rfl rfl rfl True.intro rfl rfl ?_) | refine AOps.e (EStep.storeW tabOk rfl rfl rfl True.intro rfl rfl True.intro rfl rfl rfl rfl rfl rfl rfl ?_) | refine AOps.e (EStep.allocW tabOk rfl rfl rfl rfl rfl rfl ?_) | (refine AWP.condW rfl True.intro (fun hc => ?_) (fun hc => ?_) <;> (first | (simp only [decide_eq_true_eq] at hc) | (simp only [decide_eq_false_iff_not, Int.not_lt, Int.not_le] at hc) | skip)) | refine AWP.block ?_ | refine AWP.exit ?_ | refine AWP.skip ?_ | refine AWP.ret ?_ | refine AWP.drawK2 (by decide +kernel) (by kernel_rfl) (by decide +kernel) rfl (fun K' hK => ?_) | refine AWP.drawL2 (by kernel_rfl) (by decide +kernel) rfl (fun K' hK => ?_) | (refine AQ.nil (hK _ ?_); clear hK K') | refine AQ.nil ?_ | refine AQ.q rfl rfl (fun hg => by first | exact PRun.eq (v := .iptr (encP (s.parts.getD ((k : Nat) : Int).toNat default))) (PRun.indexMW tabOk rfl rfl nd rfl nd rfl rfl (by omega)) (congrArg (fun x => AV.iptr (encP x)) hp) | exact std0 | exact PRun.callW (hpl) rfl rfl nd rfl nds | exact PRun.callW (hpt) rfl rfl nd rfl nds | exact PRun.callW (hsrc) rfl rfl nd rfl nds | exact PRun.callW (cn) rfl rfl nd rfl nds | exact std1) (by exact rfl) ?_)
  all_goals (first | (exfalso; omega) | exact absurd (h14.symm.trans hc) (by decide) | exact absurd (h17.symm.trans hc) (by decide) | (exfalso; revert hc; simp; done) | skip)
  refine AWP.newOwn 12 ?_
  refine AWP.drawW clsA (fun j1 _ => [.var (encS s), .var (encN n), .own 12 (List.map encN s.notes ++ [encN n]).length, .var (encS t), .var (encP p)] ++ [.own 12 (match j1 with | 0 => 0 | 1 => 0 | _ => ((B.drop (((0 : Nat) : Int) + 1).toNat).map encN).length)]) rfl (by kernel_rfl) (by decide +kernel) rfl (by decide +kernel) (fun K' hK => ?_)
  repeat' (first
    | refine WQ.q rfl (by decide +kernel) rfl rfl (fun k1 k2 h1 h2 hg => by first | (first | exact PRun.eq (v := .iptr (encN (B.getD ((0 : Nat) : Int).toNat default))) (PRun.indexMW tabOk rfl rfl nd rfl nd rfl rfl (by omega)) (congrArg (fun x => AV.iptr (encN x)) m5) | exact std0 | exact PRun.buildSl0 tabOk rfl rfl | exact PRun.sliceLoM tabOk rfl rfl nd rfl nd rfl (by omega) | exact PRun.sliceHiM tabOk rfl rfl nd rfl nd rfl (by omega) | exact PRun.sliceM tabOk rfl rfl nd rfl nd rfl nd rfl (by omega) | exact PRun.eqN flRt rfl rfl nd rfl nd rfl | exact PRun.callW (cs) rfl rfl nd rfl nds | exact std1) | ((have a1 : k1 = 0 ∨ k1 = 1 ∨ k1 = 2 := (by omega)); (rcases a1 with rfl | rfl | rfl) <;> (first | exact PRun.eq (v := .iptr (encN (B.getD ((0 : Nat) : Int).toNat default))) (PRun.indexMW tabOk rfl rfl nd rfl nd rfl rfl (by omega)) (congrArg (fun x => AV.iptr (encN x)) m5) | exact std0 | exact PRun.buildSl0 tabOk rfl rfl | exact PRun.sliceLoM tabOk rfl rfl nd rfl nd rfl (by omega) | exact PRun.sliceHiM tabOk rfl rfl nd rfl nd rfl (by omega) | exact PRun.sliceM tabOk rfl rfl nd rfl nd rfl nd rfl (by omega) | exact PRun.eqN flRt rfl rfl nd rfl nd rfl | exact PRun.callW (cs) rfl rfl nd rfl nds | exact std1)) | ((have a1 : k1 = 0 ∨ k1 = 1 ∨ k1 = 2 := (by omega)); (have a2 : k2 = 0 ∨ k2 = 1 ∨ k2 = 2 := (by omega)); (rcases a1 with rfl | rfl | rfl) <;> (rcases a2 with rfl | rfl | rfl) <;> (first | exact PRun.eq (v := .iptr (encN (B.getD ((0 : Nat) : Int).toNat default))) (PRun.indexMW tabOk rfl rfl nd rfl nd rfl rfl (by omega)) (congrArg (fun x => AV.iptr (encN x)) m5) | exact std0 | exact PRun.buildSl0 tabOk rfl rfl | exact PRun.sliceLoM tabOk rfl rfl nd rfl nd rfl (by omega) | exact PRun.sliceHiM tabOk rfl rfl nd rfl nd rfl (by omega) | exact PRun.sliceM tabOk rfl rfl nd rfl nd rfl nd rfl (by omega) | exact PRun.eqN flRt rfl rfl nd rfl nd rfl | exact PRun.callW (cs) rfl rfl nd rfl nds | exact std1))) (by exact rfl) ?_)
  refine WQ.e1 0 (v := .sl 12 [] .fresh) (d := some 106) rfl (by decide +kernel) rfl ?_ ?_
  · intro env' he k2 hk2
    exact EStep.gd (gOf_at rfl rfl ((he 101 (by decide +kernel)).trans rfl)) rfl (EStep.appendE tabOk rfl rfl rfl (by decide) (Rd.w ((rdv_congr (he 102 (by decide +kernel))).trans rfl) (by rw [rdn_congr (he 102 (by decide +kernel))]; first | exact True.intro | exact rfl)) (Rd.w ((rdv_congr (he 105 (by decide +kernel))).trans rfl) (by rw [rdn_congr (he 105 (by decide +kernel))]; first | exact True.intro | exact rfl)) (.sl (es := []) rfl (one_encN [])) (LOk.of (tabOk.get rfl)) (LOk.of (tabOk.get rfl)) rfl ⟨rfl, rfl⟩)
  repeat' (first
    | refine WQ.q rfl (by decide +kernel) rfl rfl (fun k1 k2 h1 h2 hg => by first | (first | exact PRun.eq (v := .iptr (encN (B.getD ((0 : Nat) : Int).toNat default))) (PRun.indexMW tabOk rfl rfl nd rfl nd rfl rfl (by omega)) (congrArg (fun x => AV.iptr (encN x)) m5) | exact std0 | exact PRun.buildSl0 tabOk rfl rfl | exact PRun.sliceLoM tabOk rfl rfl nd rfl nd rfl (by omega) | exact PRun.sliceHiM tabOk rfl rfl nd rfl nd rfl (by omega) | exact PRun.sliceM tabOk rfl rfl nd rfl nd rfl nd rfl (by omega) | exact PRun.eqN flRt rfl rfl nd rfl nd rfl | exact PRun.callW (cs) rfl rfl nd rfl nds | exact std1) | ((have a1 : k1 = 0 ∨ k1 = 1 ∨ k1 = 2 := (by omega)); (rcases a1 with rfl | rfl | rfl) <;> (first | exact PRun.eq (v := .iptr (encN (B.getD ((0 : Nat) : Int).toNat default))) (PRun.indexMW tabOk rfl rfl nd rfl nd rfl rfl (by omega)) (congrArg (fun x => AV.iptr (encN x)) m5) | exact std0 | exact PRun.buildSl0 tabOk rfl rfl | exact PRun.sliceLoM tabOk rfl rfl nd rfl nd rfl (by omega) | exact PRun.sliceHiM tabOk rfl rfl nd rfl nd rfl (by omega) | exact PRun.sliceM tabOk rfl rfl nd rfl nd rfl nd rfl (by omega) | exact PRun.eqN flRt rfl rfl nd rfl nd rfl | exact PRun.callW (cs) rfl rfl nd rfl nds | exact std1)) | ((have a1 : k1 = 0 ∨ k1 = 1 ∨ k1 = 2 := (by omega)); (have a2 : k2 = 0 ∨ k2 = 1 ∨ k2 = 2 := (by omega)); (rcases a1 with rfl | rfl | rfl) <;> (rcases a2 with rfl | rfl | rfl) <;> (first | exact PRun.eq (v := .iptr (encN (B.getD ((0 : Nat) : Int).toNat default))) (PRun.indexMW tabOk rfl rfl nd rfl nd rfl rfl (by omega)) (congrArg (fun x => AV.iptr (encN x)) m5) | exact std0 | exact PRun.buildSl0 tabOk rfl rfl | exact PRun.sliceLoM tabOk rfl rfl nd rfl nd rfl (by omega) | exact PRun.sliceHiM tabOk rfl rfl nd rfl nd rfl (by omega) | exact PRun.sliceM tabOk rfl rfl nd rfl nd rfl nd rfl (by omega) | exact PRun.eqN flRt rfl rfl nd rfl nd rfl | exact PRun.callW (cs) rfl rfl nd rfl nds | exact std1))) (by exact rfl) ?_)
  refine WQ.e1 0 (v := .sl 12 ((B.drop (((0 : Nat) : Int) + 1).toNat).map encN) (.own 5)) (d := some 111) rfl (by decide +kernel) rfl ?_ ?_
  · intro env' he k2 hk2
    exact EStep.gd (gOf_at rfl rfl ((he 101 (by decide +kernel)).trans rfl)) rfl (EStep.appendAt (l := 5) tabOk rfl rfl rfl (by decide) (Rd.w ((rdv_congr (he 106 (by decide +kernel))).trans rfl) (by rw [rdn_congr (he 106 (by decide +kernel))]; first | exact True.intro | exact rfl)) rfl (Rd.w ((rdv_congr (he 110 (by decide +kernel))).trans rfl) (by rw [rdn_congr (he 110 (by decide +kernel))]; first | exact True.intro | exact rfl)) (.sl rfl (one_encN _)) (by rw [List.length_map, List.length_drop]; omega) (LOk.of (tabOk.get rfl)) (LOk.of (tabOk.get rfl)) rfl rfl (by simp only [List.length_map, List.length_append, List.length_cons, List.length_nil, List.length_take, List.length_drop]; omega) (by simp only [List.length_map, List.length_append, List.length_cons, List.length_nil, List.length_take, List.length_drop]; omega) ⟨rfl, rfl⟩)
  repeat' (first
    | refine WQ.q rfl (by decide +kernel) rfl rfl (fun k1 k2 h1 h2 hg => by first | (first | exact PRun.eq (v := .iptr (encN (B.getD ((0 : Nat) : Int).toNat default))) (PRun.indexMW tabOk rfl rfl nd rfl nd rfl rfl (by omega)) (congrArg (fun x => AV.iptr (encN x)) m5) | exact std0 | exact PRun.buildSl0 tabOk rfl rfl | exact PRun.sliceLoM tabOk rfl rfl nd rfl nd rfl (by omega) | exact PRun.sliceHiM tabOk rfl rfl nd rfl nd rfl (by omega) | exact PRun.sliceM tabOk rfl rfl nd rfl nd rfl nd rfl (by omega) | exact PRun.eqN flRt rfl rfl nd rfl nd rfl | exact PRun.callW (cs) rfl rfl nd rfl nds | exact std1) | ((have a1 : k1 = 0 ∨ k1 = 1 ∨ k1 = 2 := (by omega)); (rcases a1 with rfl | rfl | rfl) <;> (first | exact PRun.eq (v := .iptr (encN (B.getD ((0 : Nat) : Int).toNat default))) (PRun.indexMW tabOk rfl rfl nd rfl nd rfl rfl (by omega)) (congrArg (fun x => AV.iptr (encN x)) m5) | exact std0 | exact PRun.buildSl0 tabOk rfl rfl | exact PRun.sliceLoM tabOk rfl rfl nd rfl nd rfl (by omega) | exact PRun.sliceHiM tabOk rfl rfl nd rfl nd rfl (by omega) | exact PRun.sliceM tabOk rfl rfl nd rfl nd rfl nd rfl (by omega) | exact PRun.eqN flRt rfl rfl nd rfl nd rfl | exact PRun.callW (cs) rfl rfl nd rfl nds | exact std1)) | ((have a1 : k1 = 0 ∨ k1 = 1 ∨ k1 = 2 := (by omega)); (have a2 : k2 = 0 ∨ k2 = 1 ∨ k2 = 2 := (by omega)); (rcases a1 with rfl | rfl | rfl) <;> (rcases a2 with rfl | rfl | rfl) <;> (first | exact PRun.eq (v := .iptr (encN (B.getD ((0 : Nat) : Int).toNat default))) (PRun.indexMW tabOk rfl rfl nd rfl nd rfl rfl (by omega)) (congrArg (fun x => AV.iptr (encN x)) m5) | exact std0 | exact PRun.buildSl0 tabOk rfl rfl | exact PRun.sliceLoM tabOk rfl rfl nd rfl nd rfl (by omega) | exact PRun.sliceHiM tabOk rfl rfl nd rfl nd rfl (by omega) | exact PRun.sliceM tabOk rfl rfl nd rfl nd rfl nd rfl (by omega) | exact PRun.eqN flRt rfl rfl nd rfl nd rfl | exact PRun.callW (cs) rfl rfl nd rfl nds | exact std1))) (by exact rfl) ?_)
  refine WQ.nil (hK _ _ _ ?_)
  clear hK K'
  show AWP _ _ _ _ _ _
  refine AWP.keep [(2, .ptr 0 0), (3, .ptr 1 0), (5, .b true), (6, .ptr 3 0), (49, .sl 13 (s.parts.map encP) .no), (50, .int s.parts.length), (51, .int k)] ⟨rfl, rfl, (by show AV.b _ = AV.b true; congr 1; simp [playN]), rfl, rfl, rfl, rfl, True.intro⟩ ?_
  repeat' (first | refine AOps.q rfl rfl rfl (fun hg => by first | exact std0 | exact std1) (by exact rfl) ?_ | refine AWP.seq ?_ | refine AWP.regionK (fun K' hK => ?_) | (refine AOps.nil (hK _ _ ?_); clear hK K') | refine AOps.e (EStep.boxW rfl rfl rfl rfl rfl True.intro rfl rfl ?_) | refine AOps.e (EStep.storeW tabOk rfl rfl rfl True.intro rfl rfl True.intro rfl rfl rfl rfl rfl rfl rfl ?_) | refine AOps.e (EStep.allocW tabOk rfl rfl rfl rfl rfl rfl ?_) | (refine AWP.condW rfl True.intro (fun hc => ?_) (fun hc => ?_) <;> (first | (simp only [decide_eq_true_eq] at hc) | (simp only [decide_eq_false_iff_not, Int.not_lt, Int.not_le] at hc) | skip)) | refine AWP.block ?_ | refine AWP.exit ?_ | refine AWP.skip ?_ | refine AWP.ret ?_ | refine AWP.drawK2 (by decide +kernel) (by kernel_rfl) (by decide +kernel) rfl (fun K' hK => ?_) | refine AWP.drawL2 (by kernel_rfl) (by decide +kernel) rfl (fun K' hK => ?_) | (refine AQ.nil (hK _ ?_); clear hK K') | refine AQ.nil ?_ | refine AQ.q rfl rfl (fun hg => by first | exact std0 | exact std1) (by exact rfl) ?_)
  exact ⟨k + 1, by show k + 1 ≤ s.parts.length; omega, by show s.parts.length - (k + 1) < s.parts.length - k; omega, ⟨rfl, rfl, rfl, rfl, rfl, rfl, rfl, True.intro⟩, rfl⟩
end Go.Proofs.YtnmdmmfdnnmdfaaGreatDoor
/- The law ScoreFurther by content: the loop's round, where the part is its own (fur_own). -/
namespace Go.Proofs.YtnmdmmfdnnmdfaaGreatDoor
open Go.Ab
attribute [local irreducible] AWP AOps EStep AQ PStep PRun PCall TCall VCall
set_option maxRecDepth 40000
set_option maxHeartbeats 32000000 in
theorem fur_own (s t : Score) (n : Note) (p : Part) (k : Nat) (A B : List Note) (hlt : k < s.parts.length) (hps : s.parts.length ≤ 1000000000) (hp : s.parts.getD k default = p)
    (hpl : PCall Tryz.prog 9 [.agg (encS s), .int p.id] (.tup [.sl 12 (A.map encN) .no, .int 0])) (hpt : PCall Tryz.prog 9 [.agg (encS t), .int p.id] (.tup [.sl 12 (B.map encN) .no, .int 0])) (m : Nat) (hpart : n.part = srcOf p) (cn : PCall Tryz.prog 12 [.sl 12 (B.map encN) .no, .int n.id] (.int ((m : Nat) : Int))) (hB : B.length ≤ 60) (m2 : m < B.length) (m3 : B.length = A.length + 1) (m5 : B.getD (((m : Nat) : Int)).toNat default = playN p n) (hm0 : m ≠ 0)
    (cs : PCall Tryz.prog 11 [.sl 12 ((B.take m).map encN ++ (B.drop (((m : Nat) : Int) + 1).toNat).map encN) .no, .sl 12 (A.map encN) .no] (.b true)) {K : Exit → Env → Store → Prop} :
    AWP Tryz.prog 137 furBody (thenK (fun e σ => ∃ j, furInv s j ∧ furMu s j < furMu s k ∧ WeakL e (furE s j) ∧ σ.take 4 = furS s t n) K) (Env.of (furE s k)) (furS s t n) := by
  have hsrc := source_spec p
  have h14 : (srcOf p != n.part) = false := by rw [hpart]; simp
  have h17 : (decide (((m : Nat) : Int) < 0) || ((B.length : Int) != (A.length : Int) + 1)) = false := by
    rw [decide_eq_false (by omega)]; simp; omega
  repeat' (first | refine AOps.q rfl rfl rfl (fun hg => by first | exact PRun.eq (v := .iptr (encP (s.parts.getD ((k : Nat) : Int).toNat default))) (PRun.indexMW tabOk rfl rfl nd rfl nd rfl rfl (by omega)) (congrArg (fun x => AV.iptr (encP x)) hp) | exact std0 | exact PRun.callW (hpl) rfl rfl nd rfl nds | exact PRun.callW (hpt) rfl rfl nd rfl nds | exact PRun.callW (hsrc) rfl rfl nd rfl nds | exact PRun.callW (cn) rfl rfl nd rfl nds | exact std1) (by exact rfl) ?_ | refine AWP.seq ?_ | refine AWP.regionK (fun K' hK => ?_) | (refine AOps.nil (hK _ _ ?_); clear hK K') | refine AOps.e (EStep.boxW rfl rfl rfl rfl rfl True.intro rfl rfl ?_) | refine AOps.e (EStep.storeW tabOk rfl rfl rfl True.intro rfl rfl True.intro rfl rfl rfl rfl rfl rfl rfl ?_) | refine AOps.e (EStep.allocW tabOk rfl rfl rfl rfl rfl rfl ?_) | (refine AWP.condW rfl True.intro (fun hc => ?_) (fun hc => ?_) <;> (first | (simp only [decide_eq_true_eq] at hc) | (simp only [decide_eq_false_iff_not, Int.not_lt, Int.not_le] at hc) | skip)) | refine AWP.block ?_ | refine AWP.exit ?_ | refine AWP.skip ?_ | refine AWP.ret ?_ | refine AWP.drawK2 (by decide +kernel) (by kernel_rfl) (by decide +kernel) rfl (fun K' hK => ?_) | refine AWP.drawL2 (by kernel_rfl) (by decide +kernel) rfl (fun K' hK => ?_) | (refine AQ.nil (hK _ ?_); clear hK K') | refine AQ.nil ?_ | refine AQ.q rfl rfl (fun hg => by first | exact PRun.eq (v := .iptr (encP (s.parts.getD ((k : Nat) : Int).toNat default))) (PRun.indexMW tabOk rfl rfl nd rfl nd rfl rfl (by omega)) (congrArg (fun x => AV.iptr (encP x)) hp) | exact std0 | exact PRun.callW (hpl) rfl rfl nd rfl nds | exact PRun.callW (hpt) rfl rfl nd rfl nds | exact PRun.callW (hsrc) rfl rfl nd rfl nds | exact PRun.callW (cn) rfl rfl nd rfl nds | exact std1) (by exact rfl) ?_)
  all_goals (first | (exfalso; omega) | exact absurd (h14.symm.trans hc) (by decide) | exact absurd (h17.symm.trans hc) (by decide) | (exfalso; revert hc; simp; done) | skip)
  refine AWP.newOwn 12 ?_
  refine AWP.drawW clsA (fun j1 _ => [.var (encS s), .var (encN n), .own 12 (List.map encN s.notes ++ [encN n]).length, .var (encS t), .var (encP p)] ++ [.own 12 (match j1 with | 0 => 0 | 1 => ((B.take m).map encN).length | _ => (((B.take m).map encN) ++ ((B.drop (((m : Nat) : Int) + 1).toNat).map encN)).length)]) rfl (by kernel_rfl) (by decide +kernel) rfl (by decide +kernel) (fun K' hK => ?_)
  repeat' (first
    | refine WQ.q rfl (by decide +kernel) rfl rfl (fun k1 k2 h1 h2 hg => by first | (first | exact PRun.eq (v := .iptr (encN (B.getD ((m : Nat) : Int).toNat default))) (PRun.indexMW tabOk rfl rfl nd rfl nd rfl rfl (by omega)) (congrArg (fun x => AV.iptr (encN x)) m5) | exact std0 | exact PRun.buildSl0 tabOk rfl rfl | exact PRun.sliceLoM tabOk rfl rfl nd rfl nd rfl (by omega) | exact PRun.sliceHiM tabOk rfl rfl nd rfl nd rfl (by omega) | exact PRun.sliceM tabOk rfl rfl nd rfl nd rfl nd rfl (by omega) | exact PRun.eqN flRt rfl rfl nd rfl nd rfl | exact PRun.callW (cs) rfl rfl nd rfl nds | exact std1) | ((have a1 : k1 = 0 ∨ k1 = 1 ∨ k1 = 2 := (by omega)); (rcases a1 with rfl | rfl | rfl) <;> (first | exact PRun.eq (v := .iptr (encN (B.getD ((m : Nat) : Int).toNat default))) (PRun.indexMW tabOk rfl rfl nd rfl nd rfl rfl (by omega)) (congrArg (fun x => AV.iptr (encN x)) m5) | exact std0 | exact PRun.buildSl0 tabOk rfl rfl | exact PRun.sliceLoM tabOk rfl rfl nd rfl nd rfl (by omega) | exact PRun.sliceHiM tabOk rfl rfl nd rfl nd rfl (by omega) | exact PRun.sliceM tabOk rfl rfl nd rfl nd rfl nd rfl (by omega) | exact PRun.eqN flRt rfl rfl nd rfl nd rfl | exact PRun.callW (cs) rfl rfl nd rfl nds | exact std1)) | ((have a1 : k1 = 0 ∨ k1 = 1 ∨ k1 = 2 := (by omega)); (have a2 : k2 = 0 ∨ k2 = 1 ∨ k2 = 2 := (by omega)); (rcases a1 with rfl | rfl | rfl) <;> (rcases a2 with rfl | rfl | rfl) <;> (first | exact PRun.eq (v := .iptr (encN (B.getD ((m : Nat) : Int).toNat default))) (PRun.indexMW tabOk rfl rfl nd rfl nd rfl rfl (by omega)) (congrArg (fun x => AV.iptr (encN x)) m5) | exact std0 | exact PRun.buildSl0 tabOk rfl rfl | exact PRun.sliceLoM tabOk rfl rfl nd rfl nd rfl (by omega) | exact PRun.sliceHiM tabOk rfl rfl nd rfl nd rfl (by omega) | exact PRun.sliceM tabOk rfl rfl nd rfl nd rfl nd rfl (by omega) | exact PRun.eqN flRt rfl rfl nd rfl nd rfl | exact PRun.callW (cs) rfl rfl nd rfl nds | exact std1))) (by exact rfl) ?_)
  refine WQ.e1 0 (v := .sl 12 ((B.take m).map encN) (.own 5)) (d := some 106) rfl (by decide +kernel) rfl ?_ ?_
  · intro env' he k2 hk2
    exact EStep.gd (gOf_at rfl rfl ((he 101 (by decide +kernel)).trans rfl)) rfl (EStep.appendAt (l := 5) tabOk rfl rfl rfl (by decide) (Rd.w ((rdv_congr (he 102 (by decide +kernel))).trans rfl) (by rw [rdn_congr (he 102 (by decide +kernel))]; first | exact True.intro | exact rfl)) rfl (Rd.w ((rdv_congr (he 105 (by decide +kernel))).trans rfl) (by rw [rdn_congr (he 105 (by decide +kernel))]; first | exact True.intro | exact rfl)) (.sl rfl (one_encN _)) (by rw [List.length_map, List.length_take]; omega) (LOk.of (tabOk.get rfl)) (LOk.of (tabOk.get rfl)) rfl rfl (by simp only [List.length_map, List.length_append, List.length_cons, List.length_nil, List.length_take, List.length_drop]; omega) (by simp only [List.length_map, List.length_append, List.length_cons, List.length_nil, List.length_take, List.length_drop]; omega) ⟨rfl, rfl⟩)
  repeat' (first
    | refine WQ.q rfl (by decide +kernel) rfl rfl (fun k1 k2 h1 h2 hg => by first | (first | exact PRun.eq (v := .iptr (encN (B.getD ((m : Nat) : Int).toNat default))) (PRun.indexMW tabOk rfl rfl nd rfl nd rfl rfl (by omega)) (congrArg (fun x => AV.iptr (encN x)) m5) | exact std0 | exact PRun.buildSl0 tabOk rfl rfl | exact PRun.sliceLoM tabOk rfl rfl nd rfl nd rfl (by omega) | exact PRun.sliceHiM tabOk rfl rfl nd rfl nd rfl (by omega) | exact PRun.sliceM tabOk rfl rfl nd rfl nd rfl nd rfl (by omega) | exact PRun.eqN flRt rfl rfl nd rfl nd rfl | exact PRun.callW (cs) rfl rfl nd rfl nds | exact std1) | ((have a1 : k1 = 0 ∨ k1 = 1 ∨ k1 = 2 := (by omega)); (rcases a1 with rfl | rfl | rfl) <;> (first | exact PRun.eq (v := .iptr (encN (B.getD ((m : Nat) : Int).toNat default))) (PRun.indexMW tabOk rfl rfl nd rfl nd rfl rfl (by omega)) (congrArg (fun x => AV.iptr (encN x)) m5) | exact std0 | exact PRun.buildSl0 tabOk rfl rfl | exact PRun.sliceLoM tabOk rfl rfl nd rfl nd rfl (by omega) | exact PRun.sliceHiM tabOk rfl rfl nd rfl nd rfl (by omega) | exact PRun.sliceM tabOk rfl rfl nd rfl nd rfl nd rfl (by omega) | exact PRun.eqN flRt rfl rfl nd rfl nd rfl | exact PRun.callW (cs) rfl rfl nd rfl nds | exact std1)) | ((have a1 : k1 = 0 ∨ k1 = 1 ∨ k1 = 2 := (by omega)); (have a2 : k2 = 0 ∨ k2 = 1 ∨ k2 = 2 := (by omega)); (rcases a1 with rfl | rfl | rfl) <;> (rcases a2 with rfl | rfl | rfl) <;> (first | exact PRun.eq (v := .iptr (encN (B.getD ((m : Nat) : Int).toNat default))) (PRun.indexMW tabOk rfl rfl nd rfl nd rfl rfl (by omega)) (congrArg (fun x => AV.iptr (encN x)) m5) | exact std0 | exact PRun.buildSl0 tabOk rfl rfl | exact PRun.sliceLoM tabOk rfl rfl nd rfl nd rfl (by omega) | exact PRun.sliceHiM tabOk rfl rfl nd rfl nd rfl (by omega) | exact PRun.sliceM tabOk rfl rfl nd rfl nd rfl nd rfl (by omega) | exact PRun.eqN flRt rfl rfl nd rfl nd rfl | exact PRun.callW (cs) rfl rfl nd rfl nds | exact std1))) (by exact rfl) ?_)
  refine WQ.e1 0 (v := .sl 12 (((B.take m).map encN) ++ ((B.drop (((m : Nat) : Int) + 1).toNat).map encN)) (.own 5)) (d := some 111) rfl (by decide +kernel) rfl ?_ ?_
  · intro env' he k2 hk2
    exact EStep.gd (gOf_at rfl rfl ((he 101 (by decide +kernel)).trans rfl)) rfl (EStep.appendOwn' (l := 5) tabOk rfl rfl rfl (by decide) (Rd.w ((rdv_congr (he 106 (by decide +kernel))).trans rfl) (by rw [rdn_congr (he 106 (by decide +kernel))]; first | exact True.intro | exact rfl)) rfl (Rd.w ((rdv_congr (he 110 (by decide +kernel))).trans rfl) (by rw [rdn_congr (he 110 (by decide +kernel))]; first | exact True.intro | exact rfl)) (.sl rfl (one_encN _)) (LOk.of (tabOk.get rfl)) (LOk.of (tabOk.get rfl)) rfl rfl (by simp only [List.length_map, List.length_append, List.length_cons, List.length_nil, List.length_take, List.length_drop]; omega) (by simp only [List.length_map, List.length_append, List.length_cons, List.length_nil, List.length_take, List.length_drop]; omega) ⟨rfl, rfl⟩)
  repeat' (first
    | refine WQ.q rfl (by decide +kernel) rfl rfl (fun k1 k2 h1 h2 hg => by first | (first | exact PRun.eq (v := .iptr (encN (B.getD ((m : Nat) : Int).toNat default))) (PRun.indexMW tabOk rfl rfl nd rfl nd rfl rfl (by omega)) (congrArg (fun x => AV.iptr (encN x)) m5) | exact std0 | exact PRun.buildSl0 tabOk rfl rfl | exact PRun.sliceLoM tabOk rfl rfl nd rfl nd rfl (by omega) | exact PRun.sliceHiM tabOk rfl rfl nd rfl nd rfl (by omega) | exact PRun.sliceM tabOk rfl rfl nd rfl nd rfl nd rfl (by omega) | exact PRun.eqN flRt rfl rfl nd rfl nd rfl | exact PRun.callW (cs) rfl rfl nd rfl nds | exact std1) | ((have a1 : k1 = 0 ∨ k1 = 1 ∨ k1 = 2 := (by omega)); (rcases a1 with rfl | rfl | rfl) <;> (first | exact PRun.eq (v := .iptr (encN (B.getD ((m : Nat) : Int).toNat default))) (PRun.indexMW tabOk rfl rfl nd rfl nd rfl rfl (by omega)) (congrArg (fun x => AV.iptr (encN x)) m5) | exact std0 | exact PRun.buildSl0 tabOk rfl rfl | exact PRun.sliceLoM tabOk rfl rfl nd rfl nd rfl (by omega) | exact PRun.sliceHiM tabOk rfl rfl nd rfl nd rfl (by omega) | exact PRun.sliceM tabOk rfl rfl nd rfl nd rfl nd rfl (by omega) | exact PRun.eqN flRt rfl rfl nd rfl nd rfl | exact PRun.callW (cs) rfl rfl nd rfl nds | exact std1)) | ((have a1 : k1 = 0 ∨ k1 = 1 ∨ k1 = 2 := (by omega)); (have a2 : k2 = 0 ∨ k2 = 1 ∨ k2 = 2 := (by omega)); (rcases a1 with rfl | rfl | rfl) <;> (rcases a2 with rfl | rfl | rfl) <;> (first | exact PRun.eq (v := .iptr (encN (B.getD ((m : Nat) : Int).toNat default))) (PRun.indexMW tabOk rfl rfl nd rfl nd rfl rfl (by omega)) (congrArg (fun x => AV.iptr (encN x)) m5) | exact std0 | exact PRun.buildSl0 tabOk rfl rfl | exact PRun.sliceLoM tabOk rfl rfl nd rfl nd rfl (by omega) | exact PRun.sliceHiM tabOk rfl rfl nd rfl nd rfl (by omega) | exact PRun.sliceM tabOk rfl rfl nd rfl nd rfl nd rfl (by omega) | exact PRun.eqN flRt rfl rfl nd rfl nd rfl | exact PRun.callW (cs) rfl rfl nd rfl nds | exact std1))) (by exact rfl) ?_)
  refine WQ.nil (hK _ _ _ ?_)
  clear hK K'
  show AWP _ _ _ _ _ _
  refine AWP.keep [(2, .ptr 0 0), (3, .ptr 1 0), (5, .b true), (6, .ptr 3 0), (49, .sl 13 (s.parts.map encP) .no), (50, .int s.parts.length), (51, .int k)] ⟨rfl, rfl, (by show AV.b _ = AV.b true; congr 1; simp [playN]), rfl, rfl, rfl, rfl, True.intro⟩ ?_
  repeat' (first | refine AOps.q rfl rfl rfl (fun hg => by first | exact std0 | exact std1) (by exact rfl) ?_ | refine AWP.seq ?_ | refine AWP.regionK (fun K' hK => ?_) | (refine AOps.nil (hK _ _ ?_); clear hK K') | refine AOps.e (EStep.boxW rfl rfl rfl rfl rfl True.intro rfl rfl ?_) | refine AOps.e (EStep.storeW tabOk rfl rfl rfl True.intro rfl rfl True.intro rfl rfl rfl rfl rfl rfl rfl ?_) | refine AOps.e (EStep.allocW tabOk rfl rfl rfl rfl rfl rfl ?_) | (refine AWP.condW rfl True.intro (fun hc => ?_) (fun hc => ?_) <;> (first | (simp only [decide_eq_true_eq] at hc) | (simp only [decide_eq_false_iff_not, Int.not_lt, Int.not_le] at hc) | skip)) | refine AWP.block ?_ | refine AWP.exit ?_ | refine AWP.skip ?_ | refine AWP.ret ?_ | refine AWP.drawK2 (by decide +kernel) (by kernel_rfl) (by decide +kernel) rfl (fun K' hK => ?_) | refine AWP.drawL2 (by kernel_rfl) (by decide +kernel) rfl (fun K' hK => ?_) | (refine AQ.nil (hK _ ?_); clear hK K') | refine AQ.nil ?_ | refine AQ.q rfl rfl (fun hg => by first | exact std0 | exact std1) (by exact rfl) ?_)
  exact ⟨k + 1, by show k + 1 ≤ s.parts.length; omega, by show s.parts.length - (k + 1) < s.parts.length - k; omega, ⟨rfl, rfl, rfl, rfl, rfl, rfl, rfl, True.intro⟩, rfl⟩
end Go.Proofs.YtnmdmmfdnnmdfaaGreatDoor
/- The law ScoreFurther by content: where the further note is taken. -/
namespace Go.Proofs.YtnmdmmfdnnmdfaaGreatDoor
open Go.Ab
attribute [local irreducible] AWP AOps EStep AQ PStep PRun PCall TCall VCall
set_option maxRecDepth 40000
set_option maxHeartbeats 32000000 in
theorem further_ok (s : Score) (hs : s.Small) (n : Note) (hf : PCall Tryz.prog 6 [.agg (encS s)] (.b true)) (hv : PCall Tryz.prog 7 [.agg (encS s)] (.b true)) (hlen : (s.notes.length : Int) ≤ 59) (hok : scoreOk s = true)
    (t : Score) (cw1 : PCall Tryz.prog 8 [.agg (encS s), .int s.version, .sl 12 (s.notes.map encN ++ [encN n]) .no] (tupS (t, 0)))
    (hround : ∀ (k : Nat) (K : Exit → Env → Store → Prop), k < s.parts.length → AWP Tryz.prog 137 furBody (thenK (fun e σ => ∃ j, furInv s j ∧ furMu s j < furMu s k ∧ WeakL e (furE s j) ∧ σ.take 4 = furS s t n) K) (Env.of (furE s k)) (furS s t n)) :
    PCall Tryz.prog 3 [.agg (encS s), .agg (encN n)] (.b true) := by
  have hh := head_spec
  have hps := hs.2.1
  refine PCall.body Tryz.func3 rfl rfl Tryz.ntmps3 rfl rfl ?_
  repeat' (first | refine AOps.q rfl rfl rfl (fun hg => by first | exact std0 | exact PRun.callW (hh) rfl rfl nd rfl nds | exact PRun.callW (hf) rfl rfl nd rfl nds | exact PRun.callW (hv) rfl rfl nd rfl nds | exact std1) (by exact rfl) ?_ | refine AWP.seq ?_ | refine AWP.regionK (fun K' hK => ?_) | (refine AOps.nil (hK _ _ ?_); clear hK K') | refine AOps.e (EStep.boxW rfl rfl rfl rfl rfl True.intro rfl rfl ?_) | refine AOps.e (EStep.storeW tabOk rfl rfl rfl True.intro rfl rfl True.intro rfl rfl rfl rfl rfl rfl rfl ?_) | refine AOps.e (EStep.allocW tabOk rfl rfl rfl rfl rfl rfl ?_) | (refine AWP.condW rfl True.intro (fun hc => ?_) (fun hc => ?_) <;> (first | (simp only [decide_eq_true_eq] at hc) | (simp only [decide_eq_false_iff_not, Int.not_lt, Int.not_le] at hc) | skip)) | refine AWP.block ?_ | refine AWP.exit ?_ | refine AWP.skip ?_ | refine AWP.ret ?_ | refine AWP.drawK2 (by decide +kernel) (by kernel_rfl) (by decide +kernel) rfl (fun K' hK => ?_) | refine AWP.drawL2 (by kernel_rfl) (by decide +kernel) rfl (fun K' hK => ?_) | (refine AQ.nil (hK _ ?_); clear hK K') | refine AQ.nil ?_ | refine AQ.q rfl rfl (fun hg => by first | exact std0 | exact PRun.callW (hh) rfl rfl nd rfl nds | exact PRun.callW (hf) rfl rfl nd rfl nds | exact PRun.callW (hv) rfl rfl nd rfl nds | exact std1) (by exact rfl) ?_)
  · exfalso; simp at hc; omega
  refine AWP.newOwn 12 ?_
  refine AWP.drawW clsA (fun j1 j2 => [.var (encS s), .var (encN n), .own 12 (match j1 with | 0 => 0 | 1 => (List.map encN s.notes).length | _ => (List.map encN s.notes ++ [encN n]).length)] ++ (match j2 with | 0 => [] | 1 => [.var zS] | _ => [.var (encS t)])) rfl (by kernel_rfl) (by decide +kernel) rfl (by decide +kernel) (fun K' hK => ?_)
  repeat' (first
    | refine WQ.q rfl (by decide +kernel) rfl rfl (fun k1 k2 h1 h2 hg => by first | (first | exact std0 | exact PRun.buildSl0 tabOk rfl rfl | exact std1) | ((have a1 : k1 = 0 ∨ k1 = 1 ∨ k1 = 2 := (by omega)); (rcases a1 with rfl | rfl | rfl) <;> (first | exact std0 | exact PRun.buildSl0 tabOk rfl rfl | exact std1)) | ((have a1 : k1 = 0 ∨ k1 = 1 ∨ k1 = 2 := (by omega)); (have a2 : k2 = 0 ∨ k2 = 1 ∨ k2 = 2 := (by omega)); (rcases a1 with rfl | rfl | rfl) <;> (rcases a2 with rfl | rfl | rfl) <;> (first | exact std0 | exact PRun.buildSl0 tabOk rfl rfl | exact std1))) (by exact rfl) ?_)
  refine WQ.e1 1 (v := (.sl 12 (List.map encN s.notes) (if s.notes = [] then .fresh else .own 2))) (d := some 38) rfl (by decide +kernel) rfl ?_ ?_
  · intro env' he k2 hk2
    have hk3 : k2 = 0 ∨ k2 = 1 := by omega
    by_cases hne : s.notes = []
    · rcases hk3 with rfl | rfl <;> exact EStep.appendE tabOk rfl rfl rfl (by decide) (Rd.w ((rdv_congr (he 35 (by decide +kernel))).trans rfl) (by rw [rdn_congr (he 35 (by decide +kernel))]; first | exact True.intro | exact rfl)) (Rd.w ((rdv_congr (he 37 (by decide +kernel))).trans (congrArg (fun x => some (AV.sl 12 (List.map encN x) Tok.no)) hne)) (by rw [rdn_congr (he 37 (by decide +kernel))]; first | exact True.intro | exact rfl)) (.sl rfl (one_encN [])) (LOk.of (tabOk.get rfl)) (LOk.of (tabOk.get rfl)) rfl ⟨(by show env'.put 38 (.sl 12 [] .fresh) = env'.put 38 (.sl 12 (List.map encN s.notes) (if s.notes = [] then .fresh else .own 2)); rw [if_pos hne, hne]; rfl), (by show [_, _, AObj.own 12 0] ++ _ = [_, _, AObj.own 12 (List.map encN s.notes).length] ++ _; rw [hne]; rfl)⟩
    · rcases hk3 with rfl | rfl <;> exact EStep.appendAt (l := 2) tabOk rfl rfl rfl (by decide) (Rd.w ((rdv_congr (he 35 (by decide +kernel))).trans rfl) (by rw [rdn_congr (he 35 (by decide +kernel))]; first | exact True.intro | exact rfl)) rfl (Rd.w ((rdv_congr (he 37 (by decide +kernel))).trans rfl) (by rw [rdn_congr (he 37 (by decide +kernel))]; first | exact True.intro | exact rfl)) (.sl rfl (one_encN _)) (by rw [List.length_map]; exact List.length_pos_iff.2 hne) (LOk.of (tabOk.get rfl)) (LOk.of (tabOk.get rfl)) rfl rfl (by simp only [List.length_map, List.length_append, List.length_cons, List.length_nil, List.length_take, List.length_drop]; omega) (by simp only [List.length_map, List.length_append, List.length_cons, List.length_nil, List.length_take, List.length_drop]; omega) ⟨(by show env'.put 38 (.sl 12 (List.map encN s.notes) (.own 2)) = env'.put 38 (.sl 12 (List.map encN s.notes) (if s.notes = [] then .fresh else .own 2)); rw [if_neg hne]), rfl⟩
  repeat' (first
    | refine WQ.q rfl (by decide +kernel) rfl rfl (fun k1 k2 h1 h2 hg => by first | (first | exact std0 | exact PRun.buildSlW tabOk rfl rfl nds | exact std1) | ((have a1 : k1 = 0 ∨ k1 = 1 ∨ k1 = 2 := (by omega)); (rcases a1 with rfl | rfl | rfl) <;> (first | exact std0 | exact PRun.buildSlW tabOk rfl rfl nds | exact std1)) | ((have a1 : k1 = 0 ∨ k1 = 1 ∨ k1 = 2 := (by omega)); (have a2 : k2 = 0 ∨ k2 = 1 ∨ k2 = 2 := (by omega)); (rcases a1 with rfl | rfl | rfl) <;> (rcases a2 with rfl | rfl | rfl) <;> (first | exact std0 | exact PRun.buildSlW tabOk rfl rfl nds | exact std1))) (by exact rfl) ?_)
  refine WQ.e1 1 (v := (.sl 12 (List.map encN s.notes ++ [encN n]) (.own 2))) (d := some 41) rfl (by decide +kernel) rfl ?_ ?_
  · intro env' he k2 hk2
    have hk3 : k2 = 0 ∨ k2 = 1 := by omega
    by_cases hne : s.notes = []
    · rcases hk3 with rfl | rfl <;> exact EStep.appendAt (l := 2) tabOk rfl rfl rfl (by decide) (Rd.w ((rdv_congr (he 38 (by decide +kernel))).trans (by show some (.sl 12 (List.map encN s.notes) (if s.notes = [] then .fresh else .own 2)) = some (AV.sl 12 [] .fresh); rw [if_pos hne, hne]; rfl)) (by rw [rdn_congr (he 38 (by decide +kernel))]; first | exact True.intro | exact rfl)) (by show some (AObj.own 12 (List.map encN s.notes).length) = some (AObj.own 12 0); rw [hne]; rfl) (Rd.w ((rdv_congr (he 40 (by decide +kernel))).trans rfl) (by rw [rdn_congr (he 40 (by decide +kernel))]; first | exact True.intro | exact rfl)) (.sl rfl (by intro x hx; rcases List.mem_singleton.1 hx with rfl; rfl)) (Nat.succ_pos _) (LOk.of (tabOk.get rfl)) (LOk.of (tabOk.get rfl)) rfl rfl (by simp only [List.length_map, List.length_append, List.length_cons, List.length_nil, List.length_take, List.length_drop]; omega) (by simp only [List.length_map, List.length_append, List.length_cons, List.length_nil, List.length_take, List.length_drop]; omega) ⟨(by show env'.put 41 (.sl 12 [encN n] (.own 2)) = env'.put 41 (.sl 12 (List.map encN s.notes ++ [encN n]) (.own 2)); rw [hne]; rfl), (by show [_, _, AObj.own 12 1] ++ _ = [_, _, AObj.own 12 (List.map encN s.notes ++ [encN n]).length] ++ _; rw [hne]; rfl)⟩
    · rcases hk3 with rfl | rfl <;> exact EStep.appendOwn' (l := 2) tabOk rfl rfl rfl (by decide) (Rd.w ((rdv_congr (he 38 (by decide +kernel))).trans (by show some (.sl 12 (List.map encN s.notes) (if s.notes = [] then .fresh else .own 2)) = some (AV.sl 12 (List.map encN s.notes) (.own 2)); rw [if_neg hne])) (by rw [rdn_congr (he 38 (by decide +kernel))]; first | exact True.intro | exact rfl)) rfl (Rd.w ((rdv_congr (he 40 (by decide +kernel))).trans rfl) (by rw [rdn_congr (he 40 (by decide +kernel))]; first | exact True.intro | exact rfl)) (.sl rfl (by intro x hx; rcases List.mem_singleton.1 hx with rfl; rfl)) (LOk.of (tabOk.get rfl)) (LOk.of (tabOk.get rfl)) rfl rfl (by simp only [List.length_map, List.length_append, List.length_cons, List.length_nil, List.length_take, List.length_drop]; omega) (by simp only [List.length_map, List.length_append, List.length_cons, List.length_nil, List.length_take, List.length_drop]; omega) ⟨rfl, rfl⟩
  repeat' (first
    | refine WQ.q rfl (by decide +kernel) rfl rfl (fun k1 k2 h1 h2 hg => by first | (first | exact std0 | exact PRun.callW (cw1) rfl rfl nd rfl nds | exact std1) | ((have a1 : k1 = 0 ∨ k1 = 1 ∨ k1 = 2 := (by omega)); (rcases a1 with rfl | rfl | rfl) <;> (first | exact std0 | exact PRun.callW (cw1) rfl rfl nd rfl nds | exact std1)) | ((have a1 : k1 = 0 ∨ k1 = 1 ∨ k1 = 2 := (by omega)); (have a2 : k2 = 0 ∨ k2 = 1 ∨ k2 = 2 := (by omega)); (rcases a1 with rfl | rfl | rfl) <;> (rcases a2 with rfl | rfl | rfl) <;> (first | exact std0 | exact PRun.callW (cw1) rfl rfl nd rfl nds | exact std1))) (by exact rfl) ?_)
  refine WQ.e2 0 2 (v := .ptr 3 0) (d := some 6) rfl (by decide +kernel) rfl ?_ ?_
  · intro env' he k1 _ hk1
    have hk3 : k1 = 0 ∨ k1 = 1 ∨ k1 = 2 := by omega
    rcases hk3 with rfl | rfl | rfl <;> exact EStep.allocW tabOk rfl rfl rfl rfl rfl rfl ⟨rfl, rfl⟩
  repeat' (first
    | refine WQ.q rfl (by decide +kernel) rfl rfl (fun k1 k2 h1 h2 hg => by first | (first | exact std0 | exact std1) | ((have a1 : k1 = 0 ∨ k1 = 1 ∨ k1 = 2 := (by omega)); (rcases a1 with rfl | rfl | rfl) <;> (first | exact std0 | exact std1)) | ((have a1 : k1 = 0 ∨ k1 = 1 ∨ k1 = 2 := (by omega)); (have a2 : k2 = 0 ∨ k2 = 1 ∨ k2 = 2 := (by omega)); (rcases a1 with rfl | rfl | rfl) <;> (rcases a2 with rfl | rfl | rfl) <;> (first | exact std0 | exact std1))) (by exact rfl) ?_)
  refine WQ.e2 0 2 (v := .any) (d := none) rfl (by decide +kernel) rfl ?_ ?_
  · intro env' he k1 _ hk1
    have hk3 : k1 = 0 ∨ k1 = 1 ∨ k1 = 2 := by omega
    rcases hk3 with rfl | rfl | rfl <;> exact EStep.storeW tabOk rfl rfl ((rdv_congr (he 6 (by decide +kernel))).trans rfl) (by rw [rdn_congr (he 6 (by decide +kernel))]; first | exact True.intro | exact rfl) rfl ((rdv_congr (he 43 (by decide +kernel))).trans rfl) (by rw [rdn_congr (he 43 (by decide +kernel))]; first | exact True.intro | exact rfl) rfl rfl rfl rfl rfl rfl rfl ⟨rfl, rfl⟩
  repeat' (first
    | refine WQ.q rfl (by decide +kernel) rfl rfl (fun k1 k2 h1 h2 hg => by first | (first | exact std0 | exact std1) | ((have a1 : k1 = 0 ∨ k1 = 1 ∨ k1 = 2 := (by omega)); (rcases a1 with rfl | rfl | rfl) <;> (first | exact std0 | exact std1)) | ((have a1 : k1 = 0 ∨ k1 = 1 ∨ k1 = 2 := (by omega)); (have a2 : k2 = 0 ∨ k2 = 1 ∨ k2 = 2 := (by omega)); (rcases a1 with rfl | rfl | rfl) <;> (rcases a2 with rfl | rfl | rfl) <;> (first | exact std0 | exact std1))) (by exact rfl) ?_)
  refine WQ.nil (hK _ _ _ ?_)
  clear hK K'
  show AWP _ _ _ _ _ _
  refine AWP.keep [(2, .ptr 0 0), (3, .ptr 1 0), (5, .b true), (6, .ptr 3 0), (7, .int 0)] ⟨rfl, rfl, rfl, rfl, rfl, True.intro⟩ ?_
  repeat' (first | refine AOps.q rfl rfl rfl (fun hg => by first | exact std0 | exact std1) (by exact rfl) ?_ | refine AWP.seq ?_ | refine AWP.regionK (fun K' hK => ?_) | (refine AOps.nil (hK _ _ ?_); clear hK K') | refine AOps.e (EStep.boxW rfl rfl rfl rfl rfl True.intro rfl rfl ?_) | refine AOps.e (EStep.storeW tabOk rfl rfl rfl True.intro rfl rfl True.intro rfl rfl rfl rfl rfl rfl rfl ?_) | refine AOps.e (EStep.allocW tabOk rfl rfl rfl rfl rfl rfl ?_) | (refine AWP.condW rfl True.intro (fun hc => ?_) (fun hc => ?_) <;> (first | (simp only [decide_eq_true_eq] at hc) | (simp only [decide_eq_false_iff_not, Int.not_lt, Int.not_le] at hc) | skip)) | refine AWP.block ?_ | refine AWP.exit ?_ | refine AWP.skip ?_ | refine AWP.ret ?_ | refine AWP.drawK2 (by decide +kernel) (by kernel_rfl) (by decide +kernel) rfl (fun K' hK => ?_) | refine AWP.drawL2 (by kernel_rfl) (by decide +kernel) rfl (fun K' hK => ?_) | (refine AQ.nil (hK _ ?_); clear hK K') | refine AQ.nil ?_ | refine AQ.q rfl rfl (fun hg => by first | exact std0 | exact std1) (by exact rfl) ?_)
  · exfalso; simp at hc
  refine AWP.loopD (ι := Nat) (furE s) (fun _ => furS s t n) (furInv s) (furMu s) 4 (fun _ => rfl) 0 (Nat.zero_le _) ⟨rfl, rfl, rfl, rfl, rfl, rfl, rfl, True.intro⟩ rfl (fun _ _ => rfl) (fun _ _ => rfl) ?_
  intro k hk
  by_cases hlt : k < s.parts.length
  · exact hround k _ hlt
  · have hk2 : k ≤ s.parts.length := hk
    repeat' (first | refine AOps.q rfl rfl rfl (fun hg => by first | exact std0 | exact std1) (by exact rfl) ?_ | refine AWP.seq ?_ | refine AWP.regionK (fun K' hK => ?_) | (refine AOps.nil (hK _ _ ?_); clear hK K') | refine AOps.e (EStep.boxW rfl rfl rfl rfl rfl True.intro rfl rfl ?_) | refine AOps.e (EStep.storeW tabOk rfl rfl rfl True.intro rfl rfl True.intro rfl rfl rfl rfl rfl rfl rfl ?_) | refine AOps.e (EStep.allocW tabOk rfl rfl rfl rfl rfl rfl ?_) | (refine AWP.condW rfl True.intro (fun hc => ?_) (fun hc => ?_) <;> (first | (simp only [decide_eq_true_eq] at hc) | (simp only [decide_eq_false_iff_not, Int.not_lt, Int.not_le] at hc) | skip)) | refine AWP.block ?_ | refine AWP.exit ?_ | refine AWP.skip ?_ | refine AWP.ret ?_ | refine AWP.drawK2 (by decide +kernel) (by kernel_rfl) (by decide +kernel) rfl (fun K' hK => ?_) | refine AWP.drawL2 (by kernel_rfl) (by decide +kernel) rfl (fun K' hK => ?_) | (refine AQ.nil (hK _ ?_); clear hK K') | refine AQ.nil ?_ | refine AQ.q rfl rfl (fun hg => by first | exact std0 | exact std1) (by exact rfl) ?_)
    all_goals (first | (exfalso; omega) | skip)
    exact ⟨.inr rfl, Ent.b rfl⟩
end Go.Proofs.YtnmdmmfdnnmdfaaGreatDoor
/- The law ScoreFurther by content: where it is not taken. -/
namespace Go.Proofs.YtnmdmmfdnnmdfaaGreatDoor
open Go.Ab
attribute [local irreducible] AWP AOps EStep AQ PStep PRun PCall TCall VCall
set_option maxRecDepth 40000
set_option maxHeartbeats 32000000 in
theorem further_no (s : Score) (hs : s.Small) (n : Note) (hf : PCall Tryz.prog 6 [.agg (encS s)] (.b true)) (hv : PCall Tryz.prog 7 [.agg (encS s)] (.b true)) (hlen : (s.notes.length : Int) ≤ 59)
    (wr : Score × Int) (hW : ¬ wr.2 = 0) (cw1 : PCall Tryz.prog 8 [.agg (encS s), .int s.version, .sl 12 (s.notes.map encN ++ [encN n]) .no] (tupS wr)) :
    PCall Tryz.prog 3 [.agg (encS s), .agg (encN n)] (.b true) := by
  have hh := head_spec
  refine PCall.body Tryz.func3 rfl rfl Tryz.ntmps3 rfl rfl ?_
  repeat' (first | refine AOps.q rfl rfl rfl (fun hg => by first | exact std0 | exact PRun.callW (hh) rfl rfl nd rfl nds | exact PRun.callW (hf) rfl rfl nd rfl nds | exact PRun.callW (hv) rfl rfl nd rfl nds | exact std1) (by exact rfl) ?_ | refine AWP.seq ?_ | refine AWP.regionK (fun K' hK => ?_) | (refine AOps.nil (hK _ _ ?_); clear hK K') | refine AOps.e (EStep.boxW rfl rfl rfl rfl rfl True.intro rfl rfl ?_) | refine AOps.e (EStep.storeW tabOk rfl rfl rfl True.intro rfl rfl True.intro rfl rfl rfl rfl rfl rfl rfl ?_) | refine AOps.e (EStep.allocW tabOk rfl rfl rfl rfl rfl rfl ?_) | (refine AWP.condW rfl True.intro (fun hc => ?_) (fun hc => ?_) <;> (first | (simp only [decide_eq_true_eq] at hc) | (simp only [decide_eq_false_iff_not, Int.not_lt, Int.not_le] at hc) | skip)) | refine AWP.block ?_ | refine AWP.exit ?_ | refine AWP.skip ?_ | refine AWP.ret ?_ | refine AWP.drawK2 (by decide +kernel) (by kernel_rfl) (by decide +kernel) rfl (fun K' hK => ?_) | refine AWP.drawL2 (by kernel_rfl) (by decide +kernel) rfl (fun K' hK => ?_) | (refine AQ.nil (hK _ ?_); clear hK K') | refine AQ.nil ?_ | refine AQ.q rfl rfl (fun hg => by first | exact std0 | exact PRun.callW (hh) rfl rfl nd rfl nds | exact PRun.callW (hf) rfl rfl nd rfl nds | exact PRun.callW (hv) rfl rfl nd rfl nds | exact std1) (by exact rfl) ?_)
  · exfalso; simp at hc; omega
  refine AWP.newOwn 12 ?_
  refine AWP.drawW clsA (fun j1 j2 => [.var (encS s), .var (encN n), .own 12 (match j1 with | 0 => 0 | 1 => (List.map encN s.notes).length | _ => (List.map encN s.notes ++ [encN n]).length)] ++ (match j2 with | 0 => [] | 1 => [.var zS] | _ => [.var (encS wr.1)])) rfl (by kernel_rfl) (by decide +kernel) rfl (by decide +kernel) (fun K' hK => ?_)
  repeat' (first
    | refine WQ.q rfl (by decide +kernel) rfl rfl (fun k1 k2 h1 h2 hg => by first | (first | exact std0 | exact PRun.buildSl0 tabOk rfl rfl | exact std1) | ((have a1 : k1 = 0 ∨ k1 = 1 ∨ k1 = 2 := (by omega)); (rcases a1 with rfl | rfl | rfl) <;> (first | exact std0 | exact PRun.buildSl0 tabOk rfl rfl | exact std1)) | ((have a1 : k1 = 0 ∨ k1 = 1 ∨ k1 = 2 := (by omega)); (have a2 : k2 = 0 ∨ k2 = 1 ∨ k2 = 2 := (by omega)); (rcases a1 with rfl | rfl | rfl) <;> (rcases a2 with rfl | rfl | rfl) <;> (first | exact std0 | exact PRun.buildSl0 tabOk rfl rfl | exact std1))) (by exact rfl) ?_)
  refine WQ.e1 1 (v := (.sl 12 (List.map encN s.notes) (if s.notes = [] then .fresh else .own 2))) (d := some 38) rfl (by decide +kernel) rfl ?_ ?_
  · intro env' he k2 hk2
    have hk3 : k2 = 0 ∨ k2 = 1 := by omega
    by_cases hne : s.notes = []
    · rcases hk3 with rfl | rfl <;> exact EStep.appendE tabOk rfl rfl rfl (by decide) (Rd.w ((rdv_congr (he 35 (by decide +kernel))).trans rfl) (by rw [rdn_congr (he 35 (by decide +kernel))]; first | exact True.intro | exact rfl)) (Rd.w ((rdv_congr (he 37 (by decide +kernel))).trans (congrArg (fun x => some (AV.sl 12 (List.map encN x) Tok.no)) hne)) (by rw [rdn_congr (he 37 (by decide +kernel))]; first | exact True.intro | exact rfl)) (.sl rfl (one_encN [])) (LOk.of (tabOk.get rfl)) (LOk.of (tabOk.get rfl)) rfl ⟨(by show env'.put 38 (.sl 12 [] .fresh) = env'.put 38 (.sl 12 (List.map encN s.notes) (if s.notes = [] then .fresh else .own 2)); rw [if_pos hne, hne]; rfl), (by show [_, _, AObj.own 12 0] ++ _ = [_, _, AObj.own 12 (List.map encN s.notes).length] ++ _; rw [hne]; rfl)⟩
    · rcases hk3 with rfl | rfl <;> exact EStep.appendAt (l := 2) tabOk rfl rfl rfl (by decide) (Rd.w ((rdv_congr (he 35 (by decide +kernel))).trans rfl) (by rw [rdn_congr (he 35 (by decide +kernel))]; first | exact True.intro | exact rfl)) rfl (Rd.w ((rdv_congr (he 37 (by decide +kernel))).trans rfl) (by rw [rdn_congr (he 37 (by decide +kernel))]; first | exact True.intro | exact rfl)) (.sl rfl (one_encN _)) (by rw [List.length_map]; exact List.length_pos_iff.2 hne) (LOk.of (tabOk.get rfl)) (LOk.of (tabOk.get rfl)) rfl rfl (by simp only [List.length_map, List.length_append, List.length_cons, List.length_nil, List.length_take, List.length_drop]; omega) (by simp only [List.length_map, List.length_append, List.length_cons, List.length_nil, List.length_take, List.length_drop]; omega) ⟨(by show env'.put 38 (.sl 12 (List.map encN s.notes) (.own 2)) = env'.put 38 (.sl 12 (List.map encN s.notes) (if s.notes = [] then .fresh else .own 2)); rw [if_neg hne]), rfl⟩
  repeat' (first
    | refine WQ.q rfl (by decide +kernel) rfl rfl (fun k1 k2 h1 h2 hg => by first | (first | exact std0 | exact PRun.buildSlW tabOk rfl rfl nds | exact std1) | ((have a1 : k1 = 0 ∨ k1 = 1 ∨ k1 = 2 := (by omega)); (rcases a1 with rfl | rfl | rfl) <;> (first | exact std0 | exact PRun.buildSlW tabOk rfl rfl nds | exact std1)) | ((have a1 : k1 = 0 ∨ k1 = 1 ∨ k1 = 2 := (by omega)); (have a2 : k2 = 0 ∨ k2 = 1 ∨ k2 = 2 := (by omega)); (rcases a1 with rfl | rfl | rfl) <;> (rcases a2 with rfl | rfl | rfl) <;> (first | exact std0 | exact PRun.buildSlW tabOk rfl rfl nds | exact std1))) (by exact rfl) ?_)
  refine WQ.e1 1 (v := (.sl 12 (List.map encN s.notes ++ [encN n]) (.own 2))) (d := some 41) rfl (by decide +kernel) rfl ?_ ?_
  · intro env' he k2 hk2
    have hk3 : k2 = 0 ∨ k2 = 1 := by omega
    by_cases hne : s.notes = []
    · rcases hk3 with rfl | rfl <;> exact EStep.appendAt (l := 2) tabOk rfl rfl rfl (by decide) (Rd.w ((rdv_congr (he 38 (by decide +kernel))).trans (by show some (.sl 12 (List.map encN s.notes) (if s.notes = [] then .fresh else .own 2)) = some (AV.sl 12 [] .fresh); rw [if_pos hne, hne]; rfl)) (by rw [rdn_congr (he 38 (by decide +kernel))]; first | exact True.intro | exact rfl)) (by show some (AObj.own 12 (List.map encN s.notes).length) = some (AObj.own 12 0); rw [hne]; rfl) (Rd.w ((rdv_congr (he 40 (by decide +kernel))).trans rfl) (by rw [rdn_congr (he 40 (by decide +kernel))]; first | exact True.intro | exact rfl)) (.sl rfl (by intro x hx; rcases List.mem_singleton.1 hx with rfl; rfl)) (Nat.succ_pos _) (LOk.of (tabOk.get rfl)) (LOk.of (tabOk.get rfl)) rfl rfl (by simp only [List.length_map, List.length_append, List.length_cons, List.length_nil, List.length_take, List.length_drop]; omega) (by simp only [List.length_map, List.length_append, List.length_cons, List.length_nil, List.length_take, List.length_drop]; omega) ⟨(by show env'.put 41 (.sl 12 [encN n] (.own 2)) = env'.put 41 (.sl 12 (List.map encN s.notes ++ [encN n]) (.own 2)); rw [hne]; rfl), (by show [_, _, AObj.own 12 1] ++ _ = [_, _, AObj.own 12 (List.map encN s.notes ++ [encN n]).length] ++ _; rw [hne]; rfl)⟩
    · rcases hk3 with rfl | rfl <;> exact EStep.appendOwn' (l := 2) tabOk rfl rfl rfl (by decide) (Rd.w ((rdv_congr (he 38 (by decide +kernel))).trans (by show some (.sl 12 (List.map encN s.notes) (if s.notes = [] then .fresh else .own 2)) = some (AV.sl 12 (List.map encN s.notes) (.own 2)); rw [if_neg hne])) (by rw [rdn_congr (he 38 (by decide +kernel))]; first | exact True.intro | exact rfl)) rfl (Rd.w ((rdv_congr (he 40 (by decide +kernel))).trans rfl) (by rw [rdn_congr (he 40 (by decide +kernel))]; first | exact True.intro | exact rfl)) (.sl rfl (by intro x hx; rcases List.mem_singleton.1 hx with rfl; rfl)) (LOk.of (tabOk.get rfl)) (LOk.of (tabOk.get rfl)) rfl rfl (by simp only [List.length_map, List.length_append, List.length_cons, List.length_nil, List.length_take, List.length_drop]; omega) (by simp only [List.length_map, List.length_append, List.length_cons, List.length_nil, List.length_take, List.length_drop]; omega) ⟨rfl, rfl⟩
  repeat' (first
    | refine WQ.q rfl (by decide +kernel) rfl rfl (fun k1 k2 h1 h2 hg => by first | (first | exact std0 | exact PRun.callW (cw1) rfl rfl nd rfl nds | exact std1) | ((have a1 : k1 = 0 ∨ k1 = 1 ∨ k1 = 2 := (by omega)); (rcases a1 with rfl | rfl | rfl) <;> (first | exact std0 | exact PRun.callW (cw1) rfl rfl nd rfl nds | exact std1)) | ((have a1 : k1 = 0 ∨ k1 = 1 ∨ k1 = 2 := (by omega)); (have a2 : k2 = 0 ∨ k2 = 1 ∨ k2 = 2 := (by omega)); (rcases a1 with rfl | rfl | rfl) <;> (rcases a2 with rfl | rfl | rfl) <;> (first | exact std0 | exact PRun.callW (cw1) rfl rfl nd rfl nds | exact std1))) (by exact rfl) ?_)
  refine WQ.e2 0 2 (v := .ptr 3 0) (d := some 6) rfl (by decide +kernel) rfl ?_ ?_
  · intro env' he k1 _ hk1
    have hk3 : k1 = 0 ∨ k1 = 1 ∨ k1 = 2 := by omega
    rcases hk3 with rfl | rfl | rfl <;> exact EStep.allocW tabOk rfl rfl rfl rfl rfl rfl ⟨rfl, rfl⟩
  repeat' (first
    | refine WQ.q rfl (by decide +kernel) rfl rfl (fun k1 k2 h1 h2 hg => by first | (first | exact std0 | exact std1) | ((have a1 : k1 = 0 ∨ k1 = 1 ∨ k1 = 2 := (by omega)); (rcases a1 with rfl | rfl | rfl) <;> (first | exact std0 | exact std1)) | ((have a1 : k1 = 0 ∨ k1 = 1 ∨ k1 = 2 := (by omega)); (have a2 : k2 = 0 ∨ k2 = 1 ∨ k2 = 2 := (by omega)); (rcases a1 with rfl | rfl | rfl) <;> (rcases a2 with rfl | rfl | rfl) <;> (first | exact std0 | exact std1))) (by exact rfl) ?_)
  refine WQ.e2 0 2 (v := .any) (d := none) rfl (by decide +kernel) rfl ?_ ?_
  · intro env' he k1 _ hk1
    have hk3 : k1 = 0 ∨ k1 = 1 ∨ k1 = 2 := by omega
    rcases hk3 with rfl | rfl | rfl <;> exact EStep.storeW tabOk rfl rfl ((rdv_congr (he 6 (by decide +kernel))).trans rfl) (by rw [rdn_congr (he 6 (by decide +kernel))]; first | exact True.intro | exact rfl) rfl ((rdv_congr (he 43 (by decide +kernel))).trans rfl) (by rw [rdn_congr (he 43 (by decide +kernel))]; first | exact True.intro | exact rfl) rfl rfl rfl rfl rfl rfl rfl ⟨rfl, rfl⟩
  repeat' (first
    | refine WQ.q rfl (by decide +kernel) rfl rfl (fun k1 k2 h1 h2 hg => by first | (first | exact std0 | exact std1) | ((have a1 : k1 = 0 ∨ k1 = 1 ∨ k1 = 2 := (by omega)); (rcases a1 with rfl | rfl | rfl) <;> (first | exact std0 | exact std1)) | ((have a1 : k1 = 0 ∨ k1 = 1 ∨ k1 = 2 := (by omega)); (have a2 : k2 = 0 ∨ k2 = 1 ∨ k2 = 2 := (by omega)); (rcases a1 with rfl | rfl | rfl) <;> (rcases a2 with rfl | rfl | rfl) <;> (first | exact std0 | exact std1))) (by exact rfl) ?_)
  refine WQ.nil (hK _ _ _ ?_)
  clear hK K'
  show AWP _ _ _ _ _ _
  refine AWP.keep [(5, .b true), (7, .int wr.2)] ⟨rfl, rfl, True.intro⟩ ?_
  repeat' (first | refine AOps.q rfl rfl rfl (fun hg => by first | exact std0 | exact std1) (by exact rfl) ?_ | refine AWP.seq ?_ | refine AWP.regionK (fun K' hK => ?_) | (refine AOps.nil (hK _ _ ?_); clear hK K') | refine AOps.e (EStep.boxW rfl rfl rfl rfl rfl True.intro rfl rfl ?_) | refine AOps.e (EStep.storeW tabOk rfl rfl rfl True.intro rfl rfl True.intro rfl rfl rfl rfl rfl rfl rfl ?_) | refine AOps.e (EStep.allocW tabOk rfl rfl rfl rfl rfl rfl ?_) | (refine AWP.condW rfl True.intro (fun hc => ?_) (fun hc => ?_) <;> (first | (simp only [decide_eq_true_eq] at hc) | (simp only [decide_eq_false_iff_not, Int.not_lt, Int.not_le] at hc) | skip)) | refine AWP.block ?_ | refine AWP.exit ?_ | refine AWP.skip ?_ | refine AWP.ret ?_ | (refine AQ.nil (hK _ ?_); clear hK K') | refine AQ.nil ?_ | refine AQ.q rfl rfl (fun hg => by first | exact std0 | exact std1) (by exact rfl) ?_)
  · exact ⟨.inr rfl, Ent.b rfl⟩
  all_goals (exfalso; exact hW (by simpa using hc))
end Go.Proofs.YtnmdmmfdnnmdfaaGreatDoor
/- The law ScoreFurther by content: all cases. -/
namespace Go.Proofs.YtnmdmmfdnnmdfaaGreatDoor
open Go.Ab
attribute [local irreducible] AWP AOps EStep AQ PStep PRun PCall TCall VCall
set_option maxRecDepth 40000
set_option maxHeartbeats 16000000 in
theorem further_law (s : Score) (hz : s.Sized) (n : Note) : PCall Tryz.prog 3 [.agg (encS s), .agg (encN n)] (.b true) := by
  have hh := head_spec
  have hf := few8_spec s hz
  by_cases hfew : s.few = true
  · have hs := Score.few_small hfew
    have hv := valid8_spec s hs
    rw [hfew] at hf
    by_cases hg0 : (s.notes.length : Int) ≤ 59 ∧ scoreOk s = true
    · obtain ⟨hlen, hok⟩ := hg0
      have hps := hs.2.1
      rw [hok] at hv
      have hm1 : (s.notes ++ [n]).map encN = s.notes.map encN ++ [encN n] := by rw [List.map_append]; rfl
      have cw1 := with_spec s hs s.version (s.notes ++ [n]) (by simp; omega)
      rw [hm1] at cw1
      by_cases hW : (withR s s.version (s.notes ++ [n])).2 = 0
      · obtain ⟨_, hvv, hn, hw, hWe⟩ := with_good hW
        rw [hWe] at cw1
        have hp := sortN_perm (idxAL s.bars) (s.notes ++ [n])
        have hto := sorted_valid hok hvv hn hw
        have hts : (⟨s.version, s.bars, s.parts, sortN (idxAL s.bars) (s.notes ++ [n])⟩ : Score).Small := ⟨hs.1, hs.2.1, by show (sortN _ _).length ≤ _; rw [hp.length_eq]; simp; omega⟩
        have hord := score_ord hok
        have hTo := score_ord hto
        have hnd := notesOk_nodup hn
        dsimp only at hTo
        have hoth : ∀ p : Part, n.part ≠ srcOf p → playedL s.notes p = playedL (sortN (idxAL s.bars) (s.notes ++ [n])) p := fun p h => further_other hp hord hTo h
        have hown : ∀ p : Part, n.part = srcOf p → ∃ k : Nat, noteAt (playedL (sortN (idxAL s.bars) (s.notes ++ [n])) p) n.id = k ∧ k < (playedL (sortN (idxAL s.bars) (s.notes ++ [n])) p).length ∧ (playedL (sortN (idxAL s.bars) (s.notes ++ [n])) p).length = (playedL s.notes p).length + 1 ∧ (playedL (sortN (idxAL s.bars) (s.notes ++ [n])) p).take k ++ (playedL (sortN (idxAL s.bars) (s.notes ++ [n])) p).drop (k + 1) = playedL s.notes p ∧ (playedL (sortN (idxAL s.bars) (s.notes ++ [n])) p).getD k default = playN p n := fun p h => further_own hp hord hTo hnd h
        have hplt : ∀ k, k < s.parts.length → playsR ⟨s.version, s.bars, s.parts, sortN (idxAL s.bars) (s.notes ++ [n])⟩ (s.parts.getD k default).id = (playedL (sortN (idxAL s.bars) (s.notes ++ [n])) (s.parts.getD k default), 0) := fun k hk => plays_at hto (k := k) hk
        have hTlen : (sortN (idxAL s.bars) (s.notes ++ [n])).length ≤ 60 := by rw [hp.length_eq]; simp; omega
        generalize sortN (idxAL s.bars) (s.notes ++ [n]) = T at *
        clear hp hTo hW hWe hn hw hnd hord hto
        obtain ⟨t, ht⟩ : ∃ t : Score, t = ⟨s.version, s.bars, s.parts, T⟩ := ⟨_, rfl⟩
        rw [← ht] at cw1 hts hplt
        clear ht
        refine further_ok s hs n hf hv hlen hok t cw1 fun k K hlt => ?_
        have hpl := plays_spec s hs (s.parts.getD k default).id
        rw [plays_at hok hlt] at hpl
        have hpt := plays_spec t hts (s.parts.getD k default).id
        rw [hplt k hlt] at hpt
        obtain ⟨p, hp⟩ : ∃ p, s.parts.getD k default = p := ⟨_, rfl⟩
        rw [hp] at hpl hpt
        dsimp only at hpl hpt
        have hlenA := played_len s.notes p
        have hlenB := played_len T p
        have ca := sameN_spec (playedL s.notes p) (playedL s.notes p) (by omega) (by omega)
        rw [beq_self_eq_true] at ca
        by_cases hpart : n.part = srcOf p
        · obtain ⟨m, m1, m2, m3, m4, m5⟩ := hown p hpart
          have hB : (playedL T p).length ≤ 60 := by omega
          generalize playedL s.notes p = A at *
          generalize playedL T p = B at *
          have cn := noteAt_spec B n.id (by omega)
          rw [m1] at cn
          by_cases hm0 : m = 0
          · subst hm0
            by_cases hd0 : B.drop (((0 : Nat) : Int) + 1).toNat = []
            · have cs : PCall Tryz.prog 11 [.sl 12 [] .no, .sl 12 (A.map encN) .no] (.b true) := by
                have hA0 : A = [] := by rw [← m4]; simpa using hd0
                subst hA0; exact ca
              exact fur_empty s t n p k A B hlt hps hp hpl hpt hpart cn hB m2 m3 m5 hd0 cs
            · have hd1 : 1 < B.length := by
                rcases Nat.lt_or_ge 1 B.length with h | h
                · exact h
                · exact absurd (List.drop_eq_nil_of_le h) hd0
              have cs : PCall Tryz.prog 11 [.sl 12 ((B.drop (((0 : Nat) : Int) + 1).toNat).map encN) .no, .sl 12 (A.map encN) .no] (.b true) := by
                have e : B.drop (((0 : Nat) : Int) + 1).toNat = A := by rw [← m4]; rfl
                rw [e]; exact ca
              exact fur_at s t n p k A B hlt hps hp hpl hpt hpart cn hB m2 m3 m5 hd1 cs
          · have cs : PCall Tryz.prog 11 [.sl 12 ((B.take m).map encN ++ (B.drop (((m : Nat) : Int) + 1).toNat).map encN) .no, .sl 12 (A.map encN) .no] (.b true) := by
              have e : (B.take m).map encN ++ (B.drop (((m : Nat) : Int) + 1).toNat).map encN = A.map encN := by
                rw [← m4, List.map_append]; rfl
              rw [e]; exact ca
            exact fur_own s t n p k A B hlt hps hp hpl hpt m hpart cn hB m2 m3 m5 hm0 cs
        · rw [← hoth p hpart] at hpt
          exact fur_other s t n p k _ _ hlt hps hp hpl hpt hpart ca
      · exact further_no s hs n hf hv hlen _ hW cw1
    · refine PCall.body Tryz.func3 rfl rfl Tryz.ntmps3 rfl rfl ?_
      repeat' (first | refine AOps.q rfl rfl rfl (fun hg => by first | exact std0 | exact PRun.callW (hh) rfl rfl nd rfl nds | exact PRun.callW (hf) rfl rfl nd rfl nds | exact PRun.callW (hv) rfl rfl nd rfl nds | exact std1) (by exact rfl) ?_ | refine AWP.seq ?_ | refine AWP.regionK (fun K' hK => ?_) | (refine AOps.nil (hK _ _ ?_); clear hK K') | refine AOps.e (EStep.boxW rfl rfl rfl rfl rfl True.intro rfl rfl ?_) | refine AOps.e (EStep.storeW tabOk rfl rfl rfl True.intro rfl rfl True.intro rfl rfl rfl rfl rfl rfl rfl ?_) | refine AOps.e (EStep.allocW tabOk rfl rfl rfl rfl rfl rfl ?_) | (refine AWP.condW rfl True.intro (fun hc => ?_) (fun hc => ?_) <;> (first | (simp only [decide_eq_true_eq] at hc) | (simp only [decide_eq_false_iff_not, Int.not_lt, Int.not_le] at hc) | skip)) | refine AWP.block ?_ | refine AWP.exit ?_ | refine AWP.skip ?_ | refine AWP.ret ?_ | (refine AQ.nil (hK _ ?_); clear hK K') | refine AQ.nil ?_ | refine AQ.q rfl rfl (fun hg => by first | exact std0 | exact PRun.callW (hh) rfl rfl nd rfl nds | exact PRun.callW (hf) rfl rfl nd rfl nds | exact PRun.callW (hv) rfl rfl nd rfl nds | exact std1) (by exact rfl) ?_)
      · exact ⟨.inr rfl, Ent.b rfl⟩
      all_goals
        exfalso
        simp at hc
        exact hg0 ⟨by omega, by simpa using hc.2⟩
  · have hfew2 : s.few = false := by simpa using hfew
    rw [hfew2] at hf
    refine PCall.body Tryz.func3 rfl rfl Tryz.ntmps3 rfl rfl ?_
    repeat' (first | refine AOps.q rfl rfl rfl (fun hg => by first | exact std0 | exact PRun.callW (hh) rfl rfl nd rfl nds | exact PRun.callW (hf) rfl rfl nd rfl nds | exact (Bool.noConfusion (show false = true from hg) : PRun _ _ _ _ (.b false)) | exact std1) (by exact rfl) ?_ | refine AWP.seq ?_ | refine AWP.regionK (fun K' hK => ?_) | (refine AOps.nil (hK _ _ ?_); clear hK K') | refine AOps.e (EStep.boxW rfl rfl rfl rfl rfl True.intro rfl rfl ?_) | refine AOps.e (EStep.storeW tabOk rfl rfl rfl True.intro rfl rfl True.intro rfl rfl rfl rfl rfl rfl rfl ?_) | refine AOps.e (EStep.allocW tabOk rfl rfl rfl rfl rfl rfl ?_) | (refine AWP.condW rfl True.intro (fun hc => ?_) (fun hc => ?_) <;> (first | (simp only [decide_eq_true_eq] at hc) | (simp only [decide_eq_false_iff_not, Int.not_lt, Int.not_le] at hc) | skip)) | refine AWP.block ?_ | refine AWP.exit ?_ | refine AWP.skip ?_ | refine AWP.ret ?_ | (refine AQ.nil (hK _ ?_); clear hK K') | refine AQ.nil ?_ | refine AQ.q rfl rfl (fun hg => by first | exact std0 | exact PRun.callW (hh) rfl rfl nd rfl nds | exact PRun.callW (hf) rfl rfl nd rfl nds | exact (Bool.noConfusion (show false = true from hg) : PRun _ _ _ _ (.b false)) | exact std1) (by exact rfl) ?_)
    · exact ⟨.inr rfl, Ent.b rfl⟩
    all_goals (exfalso; simp at hc)
end Go.Proofs.YtnmdmmfdnnmdfaaGreatDoor
