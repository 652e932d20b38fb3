/- Contracts by content: align: isLong, arePairs, cost.  A range over a function that looks at the caller's objects as it goes on.  Contracts by content: align: free, match: which notes belong together.  Contracts by content: slices.Clone of bars and parts; score.With. No statement is proved here. -/
import Derived.Test.YtekfpcgagoidcaaGreatDoorV4
import Derived.Test.YtekfpcgagoidcaaGreatDoorV12
import Derived.Test.YtekfpcgagoidcaaGreatDoorV17
import Derived.Test.YtekfpcgagoidcaaGreatDoorV18
set_option linter.unusedVariables false
set_option linter.unusedSimpArgs false
namespace Go.Ab
theorem PRun.lookupN {P : Program} {o : Oper} {env : Env} {σ : Store} {β : Type} {ek : (Int × Int) → Value} {f : β → List AV} {sz : Nat} {t kt et : TypeId} {m x : Operand} {al : List ((Int × Int) × List β)} {key : Int × Int} {uk um : AV} {s1 b1 : Nat} {z : List Z} {le : LI}
    (K : KeyLaw P kt ek) (hl : LOk P t ⟨.map kt et, s1, b1, z⟩) (he : LOk P et le) (hz : zeroAV le = .nils) (ho : o.op = .lookup t m x false) (hm : Rd env m um)
    (hum : um = .imap (encM ek (fun l : List β => AV.sl sz (l.map f) .no) al) ∨ ∃ l, um = .map l ∧ σ[l]? = some (.map (encM ek (fun l : List β => AV.sl sz (l.map f) .no) al)))
    (hx : Rd env x uk) (hex : exactV uk = some (ek key)) : PRun P o env σ (.sl sz (((lk al key).getD []).map f) .no) := by
  have e0 : encM ek (fun l : List β => AV.sl sz (l.map f) .no) al = encM ek (fun v : Option (List β) => match v with | some l => AV.sl sz (l.map f) .no | none => .nils) (al.map fun p => (p.1, some p.2)) := by
    unfold encM; rw [zCr]; rfl
  rw [e0] at hum
  have h := PRun.lookup (ok := false) (zv := none) (ev := fun v : Option (List β) => match v with | some l => AV.sl sz (l.map f) .no | none => .nils) K hl he hz ho hm hum hx hex
  have e1 : ∀ al : List ((Int × Int) × List β), lk (al.map fun p => (p.1, some p.2)) key = (lk al key).map some := by
    intro al
    induction al with
    | nil => rfl
    | cons p r ih =>
      simp only [zBi, lk]
      split
      · rfl
      · exact ih
  refine PRun.ent h fun M B y hy => ?_
  rw [e1] at hy
  cases hk : lk al key with
  | none => rw [hk] at hy; exact EntB.nil sz M B y hy
  | some l => rw [hk] at hy; exact hy
theorem PRun.nilCheckI {P : Program} {o : Oper} {env : Env} {σ : Store} {x : Operand} {cs : List AV} (ho : o.op = .nilCheck x) (hx : rdv env x = some (.iptr cs)) (nx : rdn env x) : PRun P o env σ (.iptr cs) :=
  .of fun G A w hs hv => by
    have hX := rd (Rd.w hx nx) (by simp [ho, Op.operands]) hv
    generalize hA : A.eval x = y at hX
    cases hX with
    | iptr _ b off f hm hr => exact ⟨_, by simp [execOp, ho, hA, Instr.sureAddr], .iptr cs b off f hm hr⟩
end Go.Ab
namespace Go.Proofs.YtekfpcgagoidcaaGreatDoor.Al
open Go.Ab Go.Sort
attribute [local irreducible] AWP AOps EStep AQ PStep PRun PCall TCall VCall
def encPr (p : Int × Int) : List AV := [.int p.1, .int p.2]
def pcI (a b : Score) (x y : AV) : AV := .iptr (encS a ++ encS b ++ [x, y])
theorem isLong_spec (a b : Score) (x y : AV) (ha : a.Small) (hb : b.Small) : PCall Tryz.prog 47 [pcI a b x y] (.b (decide (a.bars.length > 200 ∨ b.bars.length > 200))) := by
  have h1 := ha.1
  have h2 := hb.1
  refine PCall.body Tryz.func47 rfl rfl Tryz.ntmps47 rfl rfl ?_
  repeat' (first | refine aoQ rfl rfl rfl (fun hg => by exact std0) (by exact rfl) ?_ | refine sqW ?_ | refine rgK (fun K' hK => ?_) | (refine aoN (hK _ _ ?_); clear hK K') | refine rtW ?_ | refine dK2 (by decide +kernel) (by kernel_rfl) (by decide +kernel) rfl (fun K' hK => ?_) | (refine aqN (hK _ ?_); clear hK K') | refine aqQ rfl rfl (fun hg => by first | exact std0 | exact PRun.nilCheckI rfl rfl nd | exact std1) (by exact rfl) ?_)
  refine ⟨.inr rfl, Ent.b ?_⟩
  rw [decide_eq_decide]; omega
theorem pOk_bad {n m : Nat} {a b : Int} {x : Int × Int} {r : PL} (h : x.1 ≤ a ∨ x.2 ≤ b ∨ (n : Int) ≤ x.1 ∨ (m : Int) ≤ x.2) : pOk n m a b (x :: r) = false := by
  cases hp : pOk n m a b (x :: r) with
  | false => rfl
  | true =>
    simp only [pOk, zA2, dEt] at hp
    omega
theorem pOk_good {n m : Nat} {a b : Int} {x : Int × Int} {r : PL} (h : ¬ (x.1 ≤ a ∨ x.2 ≤ b ∨ (n : Int) ≤ x.1 ∨ (m : Int) ≤ x.2)) : pOk n m a b (x :: r) = pOk n m x.1 x.2 r := by
  simp only [pOk]
  rw [decide_eq_true (show a < x.1 by omega), decide_eq_true (show b < x.2 by omega), decide_eq_true (show x.1 < (n : Int) by omega), decide_eq_true (show x.2 < (m : Int) by omega)]
  rfl
theorem drop_at {α : Type} [Inhabited α] {l : List α} {k : Nat} (h : k < l.length) : l.drop k = l.getD k default :: l.drop (k + 1) := by
  rw [zBl h, getD_lt h]
theorem arePairs_spec (a b : Score) (x y : AV) (ha : a.Small) (hb : b.Small) (l : PL) (hl : l.length ≤ 1000000) : PCall Tryz.prog 53 [pcI a b x y, .sl 2 (l.map encPr) .no] (.b (pOk a.bars.length b.bars.length (-1) (-1) l)) := by
  have h1 := ha.1
  have h2 := hb.1
  refine PCall.body Tryz.func53 rfl rfl Tryz.ntmps53 rfl rfl ?_
  repeat' (first | refine aoQ rfl rfl rfl (fun hg => by first | exact std0 | exact pbD tabOk rfl rfl nds | exact std1) (by exact rfl) ?_ | refine sqW ?_ | refine rgK (fun K' hK => ?_) | (refine aoN (hK _ _ ?_); clear hK K') | refine aoE (stW tabOk rfl rfl rfl tI rfl rfl tI rfl rfl rfl rfl rfl rfl rfl ?_) | refine aoE (alW tabOk rfl rfl rfl rfl rfl rfl ?_) | refine blK ?_)
  refine lpD (ι := Nat × Int × Int) (fun q => [(0, pcI a b x y), (5, .ptr 0 0), (9, .sl 2 (l.map encPr) .no), (10, .int l.length), (11, .int q.1)]) (fun q => [.var (encPr q.2)])
    (fun q => q.1 ≤ l.length ∧ pOk a.bars.length b.bars.length (-1) (-1) l = pOk a.bars.length b.bars.length q.2.1 q.2.2 (l.drop q.1)) (fun q => l.length - q.1) 1 (fun _ => rfl) (0, -1, -1) ⟨nZl _, rfl⟩ ⟨rfl, rfl, rfl, rfl, rfl, tI⟩ rfl (fun _ _ => rfl) (fun _ _ => rfl) ?_
  rintro ⟨k, la, lb⟩ ⟨hk, hp⟩
  dsimp only at hk hp
  by_cases hlt : k < l.length
  · obtain ⟨z, hz⟩ : ∃ z, l.getD k default = z := ⟨_, rfl⟩
    rw [drop_at hlt, hz] at hp
    repeat' (first | refine aoQ rfl rfl rfl (fun hg => by first | exact iX encPr l ((k : Nat) : Int) hz (hb := by omega) | exact std0) (by exact rfl) ?_ | refine sqW ?_ | refine rgK (fun K' hK => ?_) | (refine aoN (hK _ _ ?_); clear hK K') | refine aoE (stW tabOk rfl rfl rfl tI rfl rfl tI rfl rfl rfl rfl rfl rfl rfl ?_) | refine aoE (alW tabOk rfl rfl rfl rfl rfl rfl ?_) | (refine cdW rfl tI (fun hc => ?_) (fun hc => ?_) <;> (first | (simp only [dEt] at hc) | (simp only [dEf, zA0, zA1] at hc) | skip)) | refine blK ?_ | refine exW ?_ | refine skW ?_ | refine rtW ?_ | refine dK2 (by decide +kernel) (by kernel_rfl) (by decide +kernel) rfl (fun K' hK => ?_) | (refine aqN (hK _ ?_); clear hK K') | refine aqQ rfl rfl (fun hg => by first | exact std0 | exact PRun.nilCheckI rfl rfl nd | exact std1) (by exact rfl) ?_)
    all_goals (first | (exfalso; omega) | (exfalso; simp at hc; omega) | skip)
    · refine ⟨.inr rfl, Ent.b (Eq.symm ?_)⟩
      rw [hp]
      refine pOk_bad ?_
      simp only [zAe, zB4, zA2, zAh, zB7, dEt, dEf, zB0, zAr, beq_iff_eq, beq_eq_false_iff_ne, bne_iff_ne, bne_eq_false_iff_eq, gt_iff_lt, ge_iff_le, ne_eq] at hc
      omega
    · have hn : ¬ (z.1 ≤ la ∨ z.2 ≤ lb ∨ (a.bars.length : Int) ≤ z.1 ∨ (b.bars.length : Int) ≤ z.2) := by
        simp only [zAe, zB4, zA2, zAh, zB7, dEt, dEf, zB0, zAr, beq_iff_eq, beq_eq_false_iff_ne, bne_iff_ne, bne_eq_false_iff_eq, gt_iff_lt, ge_iff_le, ne_eq] at hc
        omega
      rw [pOk_good hn] at hp
      exact ⟨(k + 1, z.1, z.2), ⟨hlt, hp⟩, by show l.length - (k + 1) < l.length - k; omega, ⟨rfl, rfl, rfl, rfl, rfl, tI⟩, rfl⟩
  · repeat' (first | refine aoQ rfl rfl rfl (fun hg => by first | exact std0 | exact std1) (by exact rfl) ?_ | refine sqW ?_ | refine rgK (fun K' hK => ?_) | (refine aoN (hK _ _ ?_); clear hK K') | refine aoE (stW tabOk rfl rfl rfl tI rfl rfl tI rfl rfl rfl rfl rfl rfl rfl ?_) | refine aoE (alW tabOk rfl rfl rfl rfl rfl rfl ?_) | (refine cdW rfl tI (fun hc => ?_) (fun hc => ?_) <;> (first | (simp only [dEt] at hc) | (simp only [dEf, zA0, zA1] at hc) | skip)) | refine blK ?_ | refine exW ?_ | refine skW ?_ | refine rtW ?_ | refine dK2 (by decide +kernel) (by kernel_rfl) (by decide +kernel) rfl (fun K' hK => ?_) | refine aqQ rfl rfl (fun hg => by exact std0) (by exact rfl) ?_)
    all_goals (first | (exfalso; omega) | skip)
    refine ⟨.inr rfl, Ent.b (Eq.symm ?_)⟩
    rw [hp, List.drop_eq_nil_of_le (by omega)]; rfl
def KnOk (a b : Score) (kn : List (KeyP × Int)) : Prop := ∀ (i k : Nat) (v : Int), lk kn ((i : Int), (k : Int)) = some v → v = costR a b i k
theorem KnOk.nil (a b : Score) : KnOk a b [] := fun i k v h => by simp [lk] at h
theorem KnOk.ins {a b : Score} {kn : List (KeyP × Int)} (h : KnOk a b kn) (i k : Nat) : KnOk a b (ins kn ((i : Int), (k : Int)) (costR a b i k)) := fun i' k' v hv => by
  rw [lk_ins'] at hv
  split at hv
  · rename_i e
    simp only [Prod.mk.injEq] at e
    have e1 : i = i' := by omega
    have e2 : k = k' := by omega
    subst e1; subst e2
    simpa using hv.symm
  · exact h i' k' v hv
structure Nts (s : Score) : Prop where
  len : s.notes.length ≤ 1000000
  bars : s.bars.length ≤ 1000000
  vals : ∀ n ∈ s.notes, bIn n
theorem Nts.inBar {s : Score} (h : Nts s) (id : Int) : (inBar s id).length ≤ 1000000 ∧ ∀ n ∈ Al.inBar s id, bIn n :=
  ⟨zD8 (zCu _ _) h.len, fun n hn => h.vals n (inBar_mem.1 hn).1⟩
def clsT (l : List Nat) (o : Oper) : Nat := match o.op, o.dst with
  | .alloc _, some d => ((l.idxOf? d).map (· + 1)).getD 0
  | .store _ (.tmp t) _, _ => ((l.idxOf? t).map (· + 1)).getD 0
  | _, _ => 0
def cellB (x : Bar) (k : Nat) : AObj := match k with
  | 0 => .arr 4 0 []
  | 1 => .arr 4 1 [encB default]
  | _ => .arr 4 1 [encB x]
abbrev cells2 (s : Store) (x y : Bar) (i j : Nat) : Store := s ++ [cellB x i, cellB y j]
def knI (a b : Score) (kn : List (KeyP × Int)) (i k : Nat) : List (KeyP × Int) := if (lk kn ((i : Int), (k : Int))).isSome then kn else ins kn ((i : Int), (k : Int)) (costR a b i k)
theorem KnOk.knI {a b : Score} {kn : List (KeyP × Int)} (h : KnOk a b kn) (i k : Nat) : KnOk a b (knI a b kn i k) := by
  unfold Al.knI; split
  · exact h
  · exact h.ins i k
def costQ (o0 o1 o2 : AObj) (a b : Score) (al : NL) (kn : List (KeyP × Int)) (i k : Nat) (r : AV) (s : Store) : Prop := r = .int (costR a b i k) ∧ s = PairS o0 o1 o2 a b al (knI a b kn i k)
theorem costP_is (a b : Score) (i k : Nat) : costR a b i k = if (eqBa (barI a i) (barI b k) && (eqRa (barI a i).len (barI b k).len && sameMu (inBar a (barI a i).id) (inBar b (barI b k).id))) = true then 0 else if ((barI a i).id == (barI b k).id || ((eqRa (barI a i).len (barI b k).len && sameMu (inBar a (barI a i).id) (inBar b (barI b k).id)) && decide (((inBar a (barI a i).id).length : Int) > 0))) = true then 1 else 5 := by
  rw [costR_is, Bool.and_comm (sameMu _ _)]
set_option maxHeartbeats 8000000 in
set_option maxRecDepth 20000 in
theorem cost_spec {o0 o1 o2 : AObj} (h3 : Pure3 o0 o1 o2) {a b : Score} (ha : Nts a) (hb : Nts b) {al : NL} (hg0 : Grp a b al) {kn : List (KeyP × Int)} (hkn : KnOk a b kn) {i k : Nat} (hi : i < a.bars.length) (hk : k < b.bars.length) :
    TCall Tryz.prog 44 [.ptr 7 0, .int i, .int k] (PairS o0 o1 o2 a b al kn) (costQ o0 o1 o2 a b al kn i k) := by
  have ha1 := ha.bars
  have hb1 := hb.bars
  refine TCall.body Tryz.func44 rfl rfl Tryz.ntmps44 rfl rfl ?_
  obtain ⟨x, hx⟩ : ∃ x, barI a i = x := ⟨_, rfl⟩
  obtain ⟨y, hy⟩ : ∃ y, barI b k = y := ⟨_, rfl⟩
  have ex : a.bars.getD ((i : Nat) : Int).toNat default = x := hx
  have ey : b.bars.getD ((k : Nat) : Int).toNat default = y := hy
  obtain ⟨lx, vx⟩ := ha.inBar x.id
  obtain ⟨ly, vy⟩ := hb.inBar y.id
  have m1 := music_spec _ lx vx
  have m2 := music_spec _ ly vy
  have m3 := equalN_spec (musL (inBar a x.id)) (musL (inBar b y.id)) (by rw [musL_len]; omega) (by rw [musL_len]; omega)
  rw [musL_eq vx vy] at m3
  have hC := costP_is a b i k
  rw [hx, hy] at hC
  have gx := (hg0 x.id).1
  have gy := (hg0 y.id).2
  repeat' (first | refine aoQ rfl rfl rfl (fun hg => by first | exact std0 | exact PRun.buildAW tabOk rfl rfl nds | exact PRun.lookup (ok := true) (ek := ekP) (ev := AV.int) (zv := 0) (al := kn) (key := ((i : Int), (k : Int))) pairKA (LOk.of (tabOk.get rfl)) (LOk.of (tabOk.get rfl)) rfl rfl (Rd.w rfl nd) (Or.inr ⟨_, rfl, rfl⟩) (Rd.w rfl nd) rfl | exact std1) (by exact rfl) ?_ | refine sqW ?_ | refine rgK (fun K' hK => ?_) | (refine aoN (hK _ _ ?_); clear hK K') | (refine cdW rfl tI (fun hc => ?_) (fun hc => ?_) <;> (first | (simp only [dEt] at hc) | (simp only [dEf, zA0, zA1] at hc) | skip)) | refine skW ?_ | refine rtW ?_)
  · refine ⟨.inr rfl, _, _, ⟨?_, by unfold knI; rw [if_pos hc]⟩, rfl, nLr _, pairS_ok h3 (nLr _) a b al kn, rfl, rfl⟩
    cases hl : lk kn ((i : Int), (k : Int)) with
    | none => rw [hl] at hc; cases hc
    | some v => rw [zBq, hkn i k v hl]
  have hkI : knI a b kn i k = ins kn ((i : Int), (k : Int)) (costR a b i k) := by unfold knI; rw [if_neg (by rw [hc]; decide)]
  clear hc
  refine AWP.newArr 4 (AWP.newArr 4 ?_)
  refine AWP.drawV 2 (clsT [9, 10]) (fun J => cells2 (PairS o0 o1 o2 a b al kn) x y (J 1) (J 2)) rfl (by kernel_rfl) (by decide +kernel) rfl (by decide +kernel) (fun K' hK => ?_)
  repeat' (first
    | refine VQ.q rfl (by decide +kernel) rfl rfl (fun J' hg => by first | exact iX encB b.bars ((k : Nat) : Int) ey (hb := by omega) | exact iX encB a.bars ((i : Nat) : Int) ex (hb := by omega) | exact std0 | exact std1) (by exact rfl) ?_)
  refine VQ.e 1 0 (v := .eptr 8 4 0 0 1) (d := some 9) rfl (by decide +kernel) rfl ?_ ?_
  · intro env' he J' hJ
    show EStep _ _ _ _ (fun e s => _ ∧ s = cells2 _ x y (J' 1 + 1) (J' 2)) env' (cells2 _ x y (J' 1) (J' 2))
    rw [hJ]
    exact EStep.allocArr (l := 8) (sz := 4) tabOk rfl rfl rfl rfl rfl rfl rfl rfl ⟨rfl, rfl⟩
  refine VQ.e 2 0 (v := .eptr 9 4 0 0 1) (d := some 10) rfl (by decide +kernel) rfl ?_ ?_
  · intro env' he J' hJ
    show EStep _ _ _ _ (fun e s => _ ∧ s = cells2 _ x y (J' 1) (J' 2 + 1)) env' (cells2 _ x y (J' 1) (J' 2))
    rw [hJ]
    exact EStep.allocArr (l := 9) (sz := 4) tabOk rfl rfl rfl rfl rfl rfl rfl rfl ⟨rfl, rfl⟩
  refine VQ.e 1 1 (v := .any) (d := none) rfl (by decide +kernel) rfl ?_ ?_
  · intro env' he J' hJ
    show EStep _ _ _ _ (fun e s => _ ∧ s = cells2 _ x y (J' 1 + 1) (J' 2)) env' (cells2 _ x y (J' 1) (J' 2))
    rw [hJ]
    exact EStep.storeE (l := 8) tabOk rfl rfl ((rdv_congr (he 9 (by decide +kernel))).trans rfl) (by rw [rdn_congr (he 9 (by decide +kernel))]; first | exact tI | exact rfl) rfl (by decide) ((rdv_congr (he 34 (by decide +kernel))).trans rfl) (by rw [rdn_congr (he 34 (by decide +kernel))]; first | exact tI | exact rfl) rfl rfl rfl rfl rfl rfl ⟨rfl, rfl⟩
  refine VQ.e 2 1 (v := .any) (d := none) rfl (by decide +kernel) rfl ?_ ?_
  · intro env' he J' hJ
    show EStep _ _ _ _ (fun e s => _ ∧ s = cells2 _ x y (J' 1) (J' 2 + 1)) env' (cells2 _ x y (J' 1) (J' 2))
    rw [hJ]
    exact EStep.storeE (l := 9) tabOk rfl rfl ((rdv_congr (he 10 (by decide +kernel))).trans rfl) (by rw [rdn_congr (he 10 (by decide +kernel))]; first | exact tI | exact rfl) rfl (by decide) ((rdv_congr (he 42 (by decide +kernel))).trans rfl) (by rw [rdn_congr (he 42 (by decide +kernel))]; first | exact tI | exact rfl) rfl rfl rfl rfl rfl rfl ⟨rfl, rfl⟩
  refine VQ.nil (hK _ _ ?_)
  clear hK K'
  show AWP _ _ _ _ _ (cells2 (PairS o0 o1 o2 a b al kn) x y 2 2)
  refine AWP.keep [(0, .ptr 7 0), (1, .int i), (2, .int k), (9, .eptr 8 4 0 0 1), (10, .eptr 9 4 0 0 1)] ⟨rfl, rfl, rfl, rfl, rfl, tI⟩ ?_
  generalize hCe : costR a b i k = C at *
  repeat' (first | refine aoQ rfl rfl rfl (fun hg => by first | exact std0 | exact PRun.fieldE tabOk rfl rfl nd rfl rfl | exact PRun.loadE tabOk rfl rfl nd rfl (zAb _) rfl rfl rfl | exact PRun.buildAW tabOk rfl rfl nds | exact PRun.eqN flBa rfl rfl nd rfl nd rfl | exact std1) (by exact rfl) ?_ | refine sqW ?_ | refine rgK (fun K' hK => ?_) | (refine aoN (hK _ _ ?_); clear hK K') | refine aoE (EStep.mapUpd (ek := ekP) (ev := AV.int) (al := kn) (key := ((i : Int), (k : Int))) pairKA (LOk.of (tabOk.get rfl)) rfl rfl rfl (Rd.w rfl tI) rfl (Rd.w rfl tI) rfl (Rd.w rfl tI) ?_) | (refine cdW rfl tI (fun hc => ?_) (fun hc => ?_) <;> (first | (simp only [dEt] at hc) | (simp only [dEf, zA0, zA1] at hc) | skip)) | refine blK ?_ | refine skW ?_ | refine rtW ?_ | refine dK2 (by decide +kernel) (by kernel_rfl) (by decide +kernel) rfl (fun K' hK => ?_) | (refine aqN (hK _ ?_); clear hK K') | refine aqQ rfl rfl (fun hg => by first | exact PRun.eq (PRun.lookupN (ek := ekP) (sz := 12) (f := encN) (al := al) (key := ((1 : Int), y.id)) pairKA (LOk.of (tabOk.get rfl)) (LOk.of (tabOk.get rfl)) rfl rfl (Rd.w rfl nd) (Or.inr ⟨_, rfl, rfl⟩) (Rd.w rfl nd) rfl) (show AV.sl 12 (((lk al ((1 : Int), y.id)).getD []).map encN) .no = AV.sl 12 ((inBar b y.id).map encN) .no by rw [gy]) | exact PRun.eq (PRun.lookupN (ek := ekP) (sz := 12) (f := encN) (al := al) (key := ((0 : Int), x.id)) pairKA (LOk.of (tabOk.get rfl)) (LOk.of (tabOk.get rfl)) rfl rfl (Rd.w rfl nd) (Or.inr ⟨_, rfl, rfl⟩) (Rd.w rfl nd) rfl) (show AV.sl 12 (((lk al ((0 : Int), x.id)).getD []).map encN) .no = AV.sl 12 ((inBar a x.id).map encN) .no by rw [gx]) | exact std0 | exact PRun.fieldE tabOk rfl rfl nd rfl rfl | exact PRun.loadE tabOk rfl rfl nd rfl (zAb _) rfl rfl rfl | exact PRun.buildAW tabOk rfl rfl nds | exact pcW (m1) rfl rfl nd rfl nds | exact pcW (m2) rfl rfl nd rfl nds | exact pcW (m3) rfl rfl nd rfl nds | exact PRun.eqN flRtA rfl rfl nd rfl nd rfl | exact std1) (by exact rfl) ?_)
  · have h2 := hC.trans (if_pos hc)
    rw [h2] at hkI hCe
    exact ⟨.inr rfl, _, PairS o0 o1 o2 a b al (ins kn ((i : Int), (k : Int)) 0), ⟨by rw [hCe], by rw [hkI]⟩, rfl, nLr _, pairS_ok h3 (nLr _) a b al _, rfl, rfl⟩
  · rename_i h1
    have h2 := hC.trans ((if_neg (fun h => Bool.noConfusion (Eq.trans (Eq.symm (show _ = false from h1)) h))).trans (if_pos hc))
    rw [h2] at hkI hCe
    exact ⟨.inr rfl, _, PairS o0 o1 o2 a b al (ins kn ((i : Int), (k : Int)) 1), ⟨by rw [hCe], by rw [hkI]⟩, rfl, nLr _, pairS_ok h3 (nLr _) a b al _, rfl, rfl⟩
  · rename_i h1
    have h2 := hC.trans ((if_neg (fun h => Bool.noConfusion (Eq.trans (Eq.symm (show _ = false from h1)) h))).trans (if_neg (fun h => Bool.noConfusion (Eq.trans (Eq.symm (show _ = false from hc)) h))))
    rw [h2] at hkI hCe
    exact ⟨.inr rfl, _, PairS o0 o1 o2 a b al (ins kn ((i : Int), (k : Int)) 5), ⟨by rw [hCe], by rw [hkI]⟩, rfl, nLr _, pairS_ok h3 (nLr _) a b al _, rfl, rfl⟩
end Go.Proofs.YtekfpcgagoidcaaGreatDoor.Al
namespace Go.Ab
def roundKP (m : Nat) (S' : Store) (pn : Prop) (R : Exit → Store → Prop) : Exit → Env → Store → Prop
  | .normal, _, s => s.take m = S' ∧ pn
  | .ret, _, s => R .ret (s.take m)
  | .exit id, _, s => R (.exit id) (s.take m)
  | _, _, _ => False
theorem yield_roundP {P : Program} {pn : Prop} {n m : Nat} {rc : Loop} {E : List (Nat × AV)} {x : List AV} {Sj Sj' : Store} {R : Exit → Store → Prop} (hrc : rc.state = .ready ∧ rc.pending = none) (hlen : Sj.length = m) (hlen' : Sj'.length = m) (hok' : Sj'.all (okObj m) = true)
    (hokE : E.all (fun p => okRef m 4 p.2) = true) (hok : Sj.all (okObj m) = true) (hR : ∀ x s, R x s → s.length = m ∧ s.all (okObj m) = true) (hsz : rc.tmps.size = n) (hx : x.length = rc.params.size) (hpn : rc.params.toList.all (fun d => decide (d < n)) = true) (hxo : x.all (okRef m 4) = true)
    (round : AWP P n rc.assign (fun x e s => x = .normal ∧ AWP P n rc.body (roundKP m Sj' pn R) e s) ((Env.of E).puts (rc.params.toList.zip x)) Sj) :
    VCall P (.opq (.yld m)) x (Sj ++ [.loop rc E]) (fun r s => (r = .b true ∧ s = Sj' ++ [.loop rc E] ∧ pn) ∨ (r = .b false ∧ ∃ s0 c, s = s0 ++ [.loop { rc with state := .done, pending := some c } E] ∧ ((c = .ret ∧ R .ret s0) ∨ ∃ id, c = .exit id ∧ R (.exit id) s0))) := by
  subst hlen
  intro G w fn' vf vc vs hs hf ha
  cases hf with
  | opq _ _ _ _ hf =>
  cases hf with
  | yld _ b hb =>
  obtain ⟨b', hb', hheap, hv, hs1⟩ := hs.aside hok
  rw [hb] at hb'; simp at hb'; subst hb'
  have hrun : (invoke (.fn (.yield b) #[]) (#[] ++ vs)).run P w = .ok (.round b rc.fn ((rc.params.zip vs).foldl (fun tmps (t, a) => tmps.setIfInBounds t a) rc.tmps) rc.assign rc.body) w := by
    have : (invoke (.fn (.yield b) #[]) (#[] ++ vs)) = Instr.yield b vs := by simp [invoke]
    rw [this]
    exact run_yield hheap (by rw [ha.1, hx])
  rw [hrun]
  simp only [uponV]
  intro ro
  have hGlen : G.B.length = Sj.length + 1 := by rw [hs.len]; simp
  refine roundIn_of_wpIn (F := FR ro) trivial ?_
  have hr1 : ARel n { G with B := G.B.take Sj.length, D := (b, .loop rc) :: G.D, R := some b, F := [] } (Env.of E) Sj { tmps := rc.tmps, defers := [] } w :=
    ⟨hsz, DefOk.nil _, fun i => VRel.take 4 _ _ (ofE_ok hokE i) (hv i), hs1.setF []⟩
  have hr2 := ARel.puts rc.params.toList x vs.toList (Env.of E) _ hr1 (by simp [hx]) (by simpa using ha.1) (fun d hd => by simpa using zA5.1 hpn d hd) fun i c hi => by
    have := VRel.take (m := Sj.length) 4 c _ (zA5.1 hxo c (zAg hi)) (ha.2 i c hi)
    simpa [zA4, List.getD] using this
  have etm : (rc.params.zip vs).foldl (fun tmps (t, a) => tmps.setIfInBounds t a) rc.tmps = (rc.params.toList.zip vs.toList).foldl (fun t (p, v) => t.setIfInBounds p v) rc.tmps := by
    rw [← Array.foldl_toList, Array.toList_zip]
  rw [etm]
  have h3 := round _ _ w hr2
  refine wpIn_mono (F := (FR ro).inRound b) h3 ?_
  rintro xx a1 w1 ⟨e1, s1, G2, ⟨rfl, hbody⟩, hle2, hr3⟩
  have hD2 : (b, Obj.loop rc) ∈ G2.D := hle2.d _ (zAk ..)
  have hb2 := (hr3.st.dfr.1 _ hD2).1
  refine ⟨_, run_beginRound hb2 hrc.1, ?_⟩
  have hs4 := hr3.st.reD hD2 { rc with state := .busy }
  have hr4 : ARel n { G2 with D := (b, .loop { rc with state := .busy }) :: G2.D.filter (fun p => p.1 != b), R := some b } e1 s1 a1 (w1.putObj b (.loop { rc with state := .busy })) := by
    obtain ⟨ds, ds2, hds, hnd, hD⟩ := hr3.defers
    refine ⟨hr3.size, ⟨ds, ds2, hds, hnd, fun b' hb' => zAj _ (zC0.2 ⟨hD b' hb', ?_⟩)⟩, hr3.vals, hs4⟩
    have h5 := (hr3.st.dfr.1 _ (hD b' hb')).1
    simp only [bne_iff_ne, ne_eq]
    intro e; subst e
    rw [hb2] at h5; simp at h5
  have h4 := hbody _ a1 _ hr4
  refine wpIn_mono (F := (FR ro).inRound b) h4 ?_
  rintro xx a3 w3 ⟨e3, s3, G4, hk, hle4, hr5⟩
  have hD4 : (b, Obj.loop { rc with state := .busy }) ∈ G4.D := hle4.d _ (zAk ..)
  have hb4 := (hr5.st.dfr.1 _ hD4).1
  have hne : ∀ p ∈ G.D, p.1 ≠ b := fun p hp e => (hs.dfr.1 p hp).2.2.1 Sj.length _ hb (by rw [e]; rfl)
  have hB : BLe G.B (G4.B.take Sj.length ++ [.blk b]) := by
    intro l g hl
    rcases nLg l Sj.length with hlt | hge
    · obtain ⟨g2, k1, k2⟩ := hle2.b l g (take_get hl hlt)
      obtain ⟨g4, k3, k4⟩ := hle4.b l g2 k1
      refine ⟨g4, ?_, k2.trans k4⟩
      have h6 : (G4.B.take Sj.length)[l]? = some g4 := take_get k3 hlt
      have : l < (G4.B.take Sj.length).length := by
        rcases nLg l (G4.B.take Sj.length).length with h | h
        · exact h
        · simp [zA3 h] at h6
      rw [zAa this]; exact h6
    · have hl2 : l = Sj.length := by
        rcases nLg l G.B.length with h | h
        · omega
        · simp [zA3 h] at hl
      subst hl2
      rw [hb] at hl; simp at hl; subst hl
      have h4l : Sj.length ≤ G4.B.length := by
        rcases nLg G4.B.length Sj.length with h | h
        · obtain ⟨g2, k1, _⟩ := hle2.b _ _ (take_get (zA8 (show G4.B.length < G.B.length by omega)) h)
          obtain ⟨g4, k3, _⟩ := hle4.b _ _ k1
          simp at k3
        · exact h
      have hl4 : (G4.B.take Sj.length).length = Sj.length := by simp; omega
      exact ⟨.blk b, by rw [zA7 (by omega), hl4]; simp, GB.Le.refl _⟩
  have hM : G.M.Le G4.M := hle2.m.trans hle4.m
  have fin : ∀ (jump : Option Code) (r0 : LoopState), (Instr.endRound b jump).run P w3 = .ok (.bool jump.isNone) (w3.putObj b (.loop { { rc with state := LoopState.busy } with state := if jump.isNone then .ready else .done, pending := jump })) := fun jump _ => run_endRound jump hb4
  have back : ∀ (r' : Loop), r'.tmps = rc.tmps → (s3.take Sj.length).length = Sj.length → (s3.take Sj.length).all (okObj Sj.length) = true →
      ∃ G5 : Gh, G.Le G5 ∧ SRel G5 (s3.take Sj.length ++ [.loop r' E]) (w3.putObj b (.loop r')) := fun r' htm hl5 hok5 => by
    have h7 := hr5.st.take Sj.length hok5
    refine ⟨{ G4 with B := G4.B.take Sj.length ++ [.blk b], D := G.D, R := G.R, F := G.F }, ⟨hle4.m0.trans hle2.m0, hle4.w0.trans hle2.w0, hM, hB, fun _ h => h, rfl, rfl⟩, ?_⟩
    refine SRel.setF (G := { G4 with B := G4.B.take Sj.length ++ [.blk b], D := G.D, R := G.R }) ?_ G.F
    exact h7.putBack hD4 r' E (fun i => by rw [htm]; exact (hv i).mono hM hB) (fun p hp => ⟨hle4.d _ (zAj _ (zC0.2 ⟨hle2.d _ (zAj _ hp), by simpa using hne p hp⟩)), hne p hp⟩) hs.dfr.2
  cases xx with
  | normal =>
    obtain ⟨hk, hpn'⟩ := hk
    obtain ⟨G5, g1, g2⟩ := back { rc with state := .ready, pending := none } rfl (by rw [hk]; exact hlen') (by rw [hk]; exact hok')
    refine ⟨_, _, fin none .ready, .b true, _, G5, .inl ⟨rfl, ?_, hpn'⟩, g1, g2, .prim _⟩
    have : ({ rc with state := .ready, pending := none } : Loop) = rc := by
      obtain ⟨h1, h2⟩ := hrc
      cases rc; simp at h1 h2; subst h1; subst h2; rfl
    rw [hk, this]
  | ret =>
    simp only [roundKP] at hk
    obtain ⟨h8, h9⟩ := hR _ _ hk
    obtain ⟨G5, g1, g2⟩ := back { rc with state := .done, pending := some .ret } rfl h8 h9
    exact ⟨_, _, fin (some .ret) .ready, .b false, _, G5, .inr ⟨rfl, _, .ret, rfl, .inl ⟨rfl, hk⟩⟩, g1, g2, .prim _⟩
  | exit id =>
    simp only [roundKP] at hk
    obtain ⟨h8, h9⟩ := hR _ _ hk
    obtain ⟨G5, g1, g2⟩ := back { rc with state := .done, pending := some (.exit id) } rfl h8 h9
    exact ⟨_, _, fin (some (.exit id)) .ready, .b false, _, G5, .inr ⟨rfl, _, .exit id, rfl, .inr ⟨id, rfl, hk⟩⟩, g1, g2, .prim _⟩
  | _ => exact hk.elim
def IterP (P : Program) (k : FuncId) (first caps : List AV) (xs : List (List AV)) (L : Nat) (S : Nat → Store) (Pj : Nat → Prop) : Prop :=
  ∀ (yv : AV) (R : Nat → Store → Prop), Pj 0 → (∀ j, j ≤ xs.length → (S j).length = L ∧ (S j).all (okObj L) = true) → (∀ j s, R j s → s.length = L ∧ s.all (okObj L) = true) →
    okRef L 3 yv = true → (∀ j x, xs[j]? = some x → Pj j → VCall P (.opq yv) x (S j) (fun r s => (r = .b true ∧ s = S (j + 1) ∧ Pj (j + 1)) ∨ (r = .b false ∧ R j s))) →
    TCall P k (first ++ [.opq yv] ++ caps) (S 0) (fun _ s => (s = S xs.length ∧ Pj xs.length) ∨ ∃ j, j < xs.length ∧ R j s)
theorem AWP.rangeFuncP {P : Program} {n : Nat} {K : Exit → Env → Store → Prop} {env : Env} {σ : Store} {g : Operand} {ps : Array Tmp} {assign body : Code} {k : FuncId} {first caps : List AV}
    (xs : List (List AV)) (E : List (Nat × AV)) (S : Nat → Store) (Pj : Nat → Prop) (R : Nat → Exit → Store → Prop) (iter : ∀ rc : Loop, IterP P k first caps xs (σ.length + 1) (fun j => S j ++ [.loop rc E]) Pj) (hP0 : Pj 0) (hg : rdv env g = some (.fn (.func k) first caps)) (ng : rdn env g)
    (hps : ∀ x ∈ xs, x.length = ps.size) (hxo : ∀ x ∈ xs, x.all (okRef σ.length 4) = true) (hpn : ps.toList.all (fun d => decide (d < n)) = true) (hE : WeakL env E) (hokE : E.all (fun p => okRef σ.length 4 p.2) = true)
    (hS0 : S 0 = σ) (hS : ∀ j, j ≤ xs.length → (S j).length = σ.length ∧ (S j).all (okObj σ.length) = true)
    (hR : ∀ j x s, R j x s → s.length = σ.length ∧ s.all (okObj σ.length) = true)
    (round : ∀ j x, xs[j]? = some x → Pj j → AWP P n assign (fun x e s => x = .normal ∧ AWP P n body (roundKP σ.length (S (j + 1)) (Pj (j + 1)) (R j)) e s) ((Env.of E).puts (ps.toList.zip x)) (S j))
    (done : Pj xs.length → K .normal env (S xs.length)) (left : ∀ j x s, j < xs.length → R j x s → K x env s) : AWP P n (.rangeFunc g ps assign body) K env σ := by
  intro G a w hr
  have hgv := hr.rd (Rd.w hg ng)
  generalize hA : a.eval g = y at hgv
  cases hgv with
  | fn _ _ _ vf vc hvf hvc h1 h2 =>
  refine wpIn_rangeFunc fun fn _ => ?_
  obtain ⟨l, mark, W1, rc, D1, hent, ⟨hc1, hc2, hc3, hc4, hc5, hc6⟩, hD1, hdef, hs1⟩ := enter_loop hr E hE.weak fn ps assign body
  have hlen : G.B.length = σ.length := hr.st.len
  have hT := iter rc (.yld σ.length)
    (fun j s => ∃ s0 c, s = s0 ++ [.loop { rc with state := .done, pending := some c } E] ∧ ((c = .ret ∧ R j .ret s0) ∨ ∃ id, c = .exit id ∧ R j (.exit id) s0))
    hP0 (fun j hj => by
      obtain ⟨k1, k2⟩ := hS j hj
      refine ⟨by simp [k1], ?_⟩
      rw [zCp, okObjs_mono (zBx _) k2]
      simpa using okObj_mono (o := .loop rc E) (zBx σ.length) hokE)
    (fun j s hs => by
      obtain ⟨s0, c, rfl, hc⟩ := hs
      have k : s0.length = σ.length ∧ s0.all (okObj σ.length) = true := by
        rcases hc with ⟨_, hc⟩ | ⟨id, _, hc⟩
        · exact hR _ _ _ hc
        · exact hR _ _ _ hc
      refine ⟨by simp [k.1], ?_⟩
      rw [zCp, okObjs_mono (zBx _) k.2]
      simpa using okObj_mono (o := .loop { rc with state := .done, pending := some c } E) (zBx σ.length) hokE)
    (by simp [okRef])
    (fun j x hx hp => by
      have hj : j < xs.length := by
        rcases nLg j xs.length with h | h
        · exact h
        · simp [zA3 h] at hx
      have hxm := zAg hx
      refine yield_roundP (n := n) ⟨hc1, hc2⟩ (hS j (by omega)).1 (hS (j + 1) (by omega)).1 (hS (j + 1) (by omega)).2 hokE (hS j (by omega)).2 (hR j) (by rw [hc3]; exact hr.size) (by rw [hc4]; exact hps x hxm) (by rw [hc4]; exact hpn) (hxo x hxm) ?_
      rw [hc4, hc5, hc6]
      exact round j x hx hp)
  have hB1 : BLe G.B (G.B ++ [.blk l]) := BLe.append _ _
  have hm : (G.B ++ [GB.blk l])[σ.length]? = some (.blk l) := by rw [← hlen]; simp
  have hargs : ArgsB { G with B := G.B ++ [.blk l], D := D1 } (first ++ [.opq (.yld σ.length)] ++ caps) (vf ++ #[.func (.yield l) #[] #[]] ++ vc) :=
    ((ArgsB.append (G := { G with B := G.B ++ [.blk l], D := D1 }) ⟨hvf, fun i c hi => (h1 i c hi).mono (Mem.Le.refl _) hB1⟩ ⟨rfl, fun i c hi => by
      cases i with
      | zero => simp at hi; subst hi; exact .opq _ _ _ _ (.yld _ l hm)
      | succ i => simp at hi⟩).append ⟨hvc, fun i c hi => (h2 i c hi).mono (Mem.Le.refl _) hB1⟩)
  have hcall := hT.2 { G with B := G.B ++ [.blk l], D := D1 } W1 _ (by show SRel _ (S 0 ++ [AObj.loop rc E]) W1; rw [hS0]; exact hs1) hargs
  refine ⟨l, mark, W1, { target := .fn (.func k) vc, args := vf ++ #[.func (.yield l) #[] #[]] }, W1, k, vf ++ #[.func (.yield l) #[] #[]] ++ vc, W1, hent, ?_, fun _ _ => trivial, ?_, ?_, ?_⟩
  · simp only [resolve, hA]
    simp [go_sem, Act.eval, Deferred.ofValue]
  · simp only [invoke]; exact run_callFunc hT.1 _ _
  · intro hd; simp [FR, Fence.wide] at hd
  · refine callsIn_FR (ro := G.R) ?_
    refine Calls.mono hcall ?_
    rintro e w' ⟨v, rv, σ', G', rfl, hQ, hle, hs', _⟩
    have hBl : G'.B[σ.length]? = some (.blk l) := by
      obtain ⟨g', k1, k2⟩ := hle.b _ _ hm
      simp only [GB.Le] at k2; subst k2; exact k1
    -- what is left when the loop is over
    have over : ∀ (s0 : Store) (r : Loop), s0.length = σ.length → s0.all (okObj σ.length) = true → SRel G' (s0 ++ [.loop r E]) w' → r.state ≠ .busy →
        ∃ G'' w'', (Instr.endLoop l).run P w' = .ok r.pending w'' ∧ G.Le G'' ∧ ARel n G'' env s0 { a with defers := mark ++ a.defers } w'' := fun s0 r hl0 ho0 hs0 hbusy => by
      obtain ⟨l', hb', hheap, _, hsa⟩ := hs0.aside (by rw [hl0]; exact ho0)
      rw [hl0, hBl] at hb'; simp at hb'; subst hb'
      have hne : ∀ p ∈ G'.D, p.1 ≠ l := fun p hp e => (hs0.dfr.1 p hp).2.2.1 _ _ hBl (by rw [e]; rfl)
      have hu := (hsa.undefer (D' := G'.D) (zAk ..) (.loop { r with state := .exhausted }) fun p hp => ⟨zAj _ hp, hne p hp⟩)
      have hu2 := SRel.setR (G := { G' with B := G'.B.take s0.length }) (R' := G'.R) hu hs0.dfr.2
      have hBe : BLe G.B (G'.B.take s0.length) := fun i g hi => by
        obtain ⟨g', k1, k2⟩ := (hB1.trans hle.b) i g hi
        have : i < s0.length := by
          rcases nLg i G.B.length with h | h
          · omega
          · simp [zA3 h] at hi
        exact ⟨g', take_get k1 this, k2⟩
      refine ⟨{ G' with B := G'.B.take s0.length }, _, run_endLoop hheap hbusy, ⟨hle.m0, hle.w0, hle.m, hBe, fun p hp => hle.d p (hD1 p hp), hle.r, hle.f⟩, hr.size, by rw [show ({ G' with B := G'.B.take s0.length } : Gh).F = G.F from hle.f]; exact hdef.mono hle.d, fun i => (hr.vals i).mono hle.m hBe, hu2⟩
    rcases hQ with ⟨rfl, hPn⟩ | ⟨j, hj, s0, c, rfl, hc⟩
    · obtain ⟨k1, k2⟩ := hS xs.length (nLr _)
      obtain ⟨G'', w'', h3, h4, h5⟩ := over _ rc k1 k2 hs' (by rw [hc1]; simp)
      rw [hc2] at h3
      exact ⟨none, w'', h3, env, _, G'', done hPn, h4, h5⟩
    · rcases hc with ⟨rfl, hc⟩ | ⟨id, rfl, hc⟩
      · obtain ⟨k1, k2⟩ := hR _ _ _ hc
        obtain ⟨G'', w'', h3, h4, h5⟩ := over s0 _ k1 k2 hs' (by simp)
        exact ⟨some .ret, w'', h3, wpIn_ret ⟨env, _, G'', left _ _ _ hj hc, h4, h5⟩⟩
      · obtain ⟨k1, k2⟩ := hR _ _ _ hc
        obtain ⟨G'', w'', h3, h4, h5⟩ := over s0 _ k1 k2 hs' (by simp)
        exact ⟨some (.exit id), w'', h3, wpIn_exit ⟨env, _, G'', left _ _ _ hj hc, h4, h5⟩⟩
end Go.Ab
namespace Go.Proofs.YtekfpcgagoidcaaGreatDoor.Al
open Go.Ab Go.Sort
attribute [local irreducible] AWP AOps EStep AQ PStep PRun PCall TCall VCall
def swp (ps : PL) : PL := ps.map fun p => (p.2, p.1)
theorem sndIn_swp (ps : PL) (i : Int) : (lk (swp ps) i).isSome = sndIn ps i := by
  rw [lk_fst]; unfold fstIn swp sndIn; rw [List.any_map]; rfl
theorem ins_new {ps : PL} {i k : Int} (h : fstIn ps i = false) : ins ps i k = ps ++ [(i, k)] := by
  induction ps with
  | nil => rfl
  | cons p r ih =>
    obtain ⟨x, y⟩ := p
    unfold fstIn at h ih
    rw [List.any_cons, zAh] at h
    have hne : x ≠ i := by simpa using h.1
    simp only [ins]
    rw [if_neg hne, ih h.2]; rfl
def freeA (a : List Note) (ps : PL) : List Note := a.filter fun x => !fstIn ps x.id
def freeB (b : List Note) (ps : PL) : List Note := b.filter fun y => !sndIn ps y.id
theorem stepM_done {f : Note → Note → Bool} {b : List Note} {ps : PL} {x : Note} (h : fstIn ps x.id = true) : stepM f b ps x = ps := by unfold stepM; rw [if_pos h]
theorem matchL_free {f : Note → Note → Bool} {b : List Note} (q : PL) : ∀ {l : List Note} {ps : PL}, (∀ i, fstIn q i = true → fstIn ps i = true) → matchL f l b ps = matchL f (freeA l q) b ps
  | [], _, _ => rfl
  | x :: l, ps, h => by
    unfold freeA
    by_cases hx : fstIn q x.id = true
    · rw [zBh (by rw [hx]; decide)]
      show matchL f l b (stepM f b ps x) = _
      rw [stepM_done (h _ hx)]
      exact matchL_free q h
    · rw [zBa (by simpa using hx)]
      show matchL f l b (stepM f b ps x) = matchL f (freeA l q) b (stepM f b ps x)
      exact matchL_free q fun i hi => by
        obtain ⟨k, hk⟩ := fstIn_iff.1 (h i hi)
        exact fstIn_iff.2 ⟨k, stepM_sub hk⟩
def psAt (f : Note → Note → Bool) (a b : List Note) (ps : PL) (j : Nat) : PL := matchL f ((freeA a ps).take j) b ps
theorem psAt_succ {f : Note → Note → Bool} {a b : List Note} {ps : PL} {j : Nat} (h : j < (freeA a ps).length) : psAt f a b ps (j + 1) = stepM f b (psAt f a b ps j) ((freeA a ps).getD j default) := by
  unfold psAt matchL; rw [takeS h, zCj]; rfl
theorem psAt_end {f : Note → Note → Bool} {a b : List Note} {ps : PL} : psAt f a b ps (freeA a ps).length = matchL f a b ps := by
  unfold psAt; rw [zBt]; exact (matchL_free ps (fun _ h => h)).symm
theorem stepM_fst {f : Note → Note → Bool} {b : List Note} {ps : PL} {x : Note} {i : Int} (h : i ≠ x.id) : fstIn (stepM f b ps x) i = fstIn ps i := by
  unfold stepM
  split
  · rfl
  · split
    · rw [fstIn_append]; simp [fstIn]; intro e; exact absurd e.symm h
    · rfl
theorem matchL_fst {f : Note → Note → Bool} {b : List Note} : ∀ {l : List Note} {ps : PL} {i : Int}, (∀ x ∈ l, x.id ≠ i) → fstIn (matchL f l b ps) i = fstIn ps i
  | [], _, _, _ => rfl
  | x :: l, ps, i, h => by
    show fstIn (matchL f l b (stepM f b ps x)) i = _
    rw [matchL_fst (l := l) fun y hy => h y (zAj _ hy), stepM_fst (h x (zAk ..)).symm]
theorem psAt_lk {f : Note → Note → Bool} {a b : List Note} {ps : PL} (hn : (a.map (·.id)).Nodup) {k : Nat} (hk : k < a.length) :
    (lk (psAt f a b ps ((a.take k).filter fun x => !fstIn ps x.id).length) (a.getD k default).id).isSome = fstIn ps (a.getD k default).id := by
  rw [lk_fst]
  unfold psAt freeA
  exact matchL_fst (notin_take (f := fun n : Note => n.id) (fun x => !fstIn ps x.id) hn hk)
theorem find_take {α : Type} [Inhabited α] {p : α → Bool} : ∀ {l : List α} {j : Nat}, j < l.length → (∀ i, i < j → p (l.getD i default) = false) → p (l.getD j default) = true → l.find? p = some (l.getD j default)
  | x :: l, 0, _, _, h => by
    rw [zCm]
    have h : p x = true := h
    rw [h]; rfl
  | x :: l, j + 1, hj, h1, h2 => by
    rw [zCm]
    have h0 : p x = false := h1 0 (zAb _)
    rw [h0]
    exact find_take (l := l) (j := j) (by simpa using hj) (fun i hi => h1 (i + 1) (by omega)) h2
theorem find_filter {α : Type} (p q : α → Bool) : ∀ l : List α, l.find? (fun y => p y && q y) = (l.filter p).find? q
  | [] => rfl
  | y :: l => by
    rw [zCm]
    by_cases hp : p y = true
    · rw [zBa hp, zCm, hp, zCf, find_filter p q l]
    · have hp' : p y = false := by simpa using hp
      rw [zBh hp, hp', Bool.false_and, find_filter p q l]
theorem stepM_at {f : Note → Note → Bool} {b : List Note} {ps : PL} {x : Note} (hx : fstIn ps x.id = false) {j : Nat} (hj : j < (freeB b ps).length) (h1 : ∀ i, i < j → f x ((freeB b ps).getD i default) = false) (h2 : f x ((freeB b ps).getD j default) = true) :
    stepM f b ps x = ps ++ [(x.id, ((freeB b ps).getD j default).id)] := by
  unfold stepM
  rw [if_neg (by rw [hx]; decide), find_filter (fun y => !sndIn ps y.id) (f x)]
  rw [find_take (l := b.filter fun y => !sndIn ps y.id) hj h1 h2]; rfl
theorem stepM_none {f : Note → Note → Bool} {b : List Note} {ps : PL} {x : Note} (hx : fstIn ps x.id = false) (h1 : ∀ i, i < (freeB b ps).length → f x ((freeB b ps).getD i default) = false) : stepM f b ps x = ps := by
  unfold stepM
  rw [if_neg (by rw [hx]; decide), find_filter (fun y => !sndIn ps y.id) (f x)]
  have : (b.filter fun y => !sndIn ps y.id).find? (f x) = none := by
    rw [List.find?_eq_none]
    intro y hy
    obtain ⟨i, hi, rfl⟩ := zAz.1 hy
    have h9 : f x ((b.filter fun y => !sndIn ps y.id).getD i default) = false := h1 i hi
    rw [getD_lt hi] at h9
    rw [h9]; decide
  rw [this]
end Go.Proofs.YtekfpcgagoidcaaGreatDoor.Al
namespace Go.Ab
theorem Ent.agg {us vs : List AV} (hl : us.length = vs.length) (h : ∀ (i : Nat) (u v : AV), us[i]? = some u → vs[i]? = some v → Ent u v) : Ent (.agg us) (.agg vs) := fun M x hx => by
  cases hx with
  | agg _ xs h1 h2 =>
    refine .agg vs xs (by rw [h1, hl]) fun i c hi => ?_
    have hlt : i < us.length := by
      rw [hl]
      rcases nLg i vs.length with h | h
      · exact h
      · simp [zA3 h] at hi
    exact h i us[i] c (zA8 hlt) hi M _ (h2 i _ (zA8 hlt))
end Go.Ab
namespace Go.Proofs.YtekfpcgagoidcaaGreatDoor
open Go.Ab
attribute [local irreducible] AWP AOps EStep AQ PStep PRun PCall TCall VCall
end Go.Proofs.YtekfpcgagoidcaaGreatDoor
