/- make([]int, n): an array of the call's own whose elements change.  Contracts by content: the reference's visits, whole and in force.  Contracts by content: the reference's visits in force, Reason.  Contracts by content: place of the reference: right, named, once.  Contracts by content: place of the reference: Moment, Resolve. No statement is proved here. -/
import Derived.Laws.OwnMore
import Derived.Test.YtdglbdfdkabjfaaGreatDoorP6
import Derived.Test.YtdglbdfdkabjfaaGreatDoorP19
import Derived.Test.YtdglbdfdkabjfaaGreatDoorP22
import Derived.Test.YtdglbdfdkabjfaaGreatDoorP23
import Derived.Test.YtdglbdfdkabjfaaGreatDoorP28
import Derived.Test.YtdglbdfdkabjfaaGreatDoorP29
set_option linter.unusedVariables false
set_option linter.unusedSimpArgs false
namespace Go.Ab
section
variable {P : Program} {n : Nat} {ops : Array Oper} {o : Oper} {env : Env} {σ : Store} {k : Env → Store → Prop}
theorem madeZ (m j : Nat) (h : j < m) : (madeCells #[.int .i64 0] m).getD j undef = .int .i64 0 := by
 have h1 := toList_madeCells_one (.int .i64 0) m
 have h2 : j < (madeCells #[.int .i64 0] m).size := by rw [size_madeCells]; exact h
 rw [zA2, zAr h2, zC7, ← Array.getElem_toList]
 simp only [h1, List.getElem_replicate]
theorem EStep.makeInts {t e : TypeId} {x y : Operand} {i : TypeInfo} {m : Int} {d : Nat} (ht : P.underlying t = some (.slice e)) (hi : P.info? e = some i) (hz : i.zero = some (.int .i64 0)) (hs : i.size = 1) (hb : i.bytes = 8)
 (ho : o.op = .makeSlice t x y) (hg : o.guard = none) (hd : o.dst = some d) (hdn : decide (d < n) = true) (hx : rdv env x = some (.int m)) (nx : rdn env x) (hy : rdv env y = some (.int m)) (ny : rdn env y) (hm : 0 ≤ m ∧ m ≤ 1000000)
 (hk : k (env.put d (.sla σ.length 1 0 m.toNat 0)) (σ ++ [.arr 1 0 (List.replicate m.toNat [.int 0])])) : EStep P n ops o k env σ := by
 refine EStep.plain hg fun G a w hr => ?_
 have hX := VRel.prim_eq (hr.rd (Rd.w hx nx))
 have hY := VRel.prim_eq (hr.rd (Rd.w hy ny))
 have hrun := run_make (P := P) w t e i (.int .i64 0) ht hi hz .i64 .i64 m m hm.1 (zBh _) (by rw [hb]; show (8 : Int) * m ≤ _; omega) (by omega)
 rw [hs, Nat.mul_one] at hrun
 have e1 : (execOp a.eval o).run P w = .ok (.value (.slice (some ⟨w.heap.size, 0, none⟩) m.toNat m.toNat)) (w.alloc (.cells (madeCells #[.int .i64 0] m.toNat) e)) := by
  simp only [execOp, ho, hX, hY, Sem.run_bind]
  rw [hrun]; rfl
 unfold OWP
 rw [e1]
 have hmm := mem_lt hr.st.memok
 have hle : BLe G.B (G.B ++ [GB.own (some w.heap.size) m.toNat 0]) := BLe.append _ _
 have hs2 := hr.st.alloc (o := .cells (madeCells #[.int .i64 0] m.toNat) e) (g := .own (some w.heap.size) m.toNat 0) (ao := .arr 1 0 (List.replicate m.toNat [.int 0])) rfl
  (.arr w.heap.size m.toNat 1 0 _ _ e (0, 0) (by rw [heap_alloc, if_pos rfl]) (by intro o _; simp) (by rw [size_madeCells, Nat.mul_one]) (by simp) (fun x hx => by rw [List.eq_of_mem_replicate hx]; rfl) (fun i j x c h1 h2 => by
   have hi' : i < m.toNat := by
    have := (zAb.1 h1).1
    simpa using this
   rw [List.getElem?_replicate, if_pos hi'] at h1
   cases h1
   have hj : j = 0 := by
    have := (zAb.1 h2).1
    simpa using this
   subst hj
   cases h2
   rw [Nat.mul_one, zBj, madeZ _ _ hi']
   exact .prim _) (hmm _ (zAh _)).1)
 refine ⟨_, _, _, hk, .upB hle, ?_⟩
 rw [hd]
 have hr' : ARel n { G with B := G.B ++ [GB.own (some w.heap.size) m.toNat 0] } env (σ ++ [.arr 1 0 (List.replicate m.toNat [.int 0])]) a (w.alloc (.cells (madeCells #[.int .i64 0] m.toNat) e)) := hr.later (.upB hle) hs2
 refine hr'.put (of_decide_eq_true hdn) ?_
 refine .sla σ.length 1 0 m.toNat 0 _ m.toNat ⟨some w.heap.size, m.toNat, 0, ?_, zAh _, fun _ => ⟨by omega, .inr ⟨by omega, by simp⟩⟩⟩
 rw [← hr.st.len]; simp
end
end Go.Ab
namespace Go.Proofs.YtdglbdfdkabjfaaGreatDoor.Pl
open Go.Ab Go.Pl
attribute [local irreducible] AWP AOps EStep AQ PStep PRun PCall TCall VCall
def encI (n : Int) : List AV := [.int n]
def cntL (l : List Int) (nb : Nat) : List (List AV) := (List.range nb).map fun (b : Nat) => [AV.int ((l.count (b : Int) : Nat) : Int)]
theorem cnt_zero (nb : Nat) : List.replicate nb [AV.int 0] = cntL [] nb := by
 unfold cntL
 refine List.ext_getElem (by simp) fun i h1 h2 => ?_
 simp
theorem cnt_ok (m : Nat) (l : List Int) (nb : Nat) : okObj m (.arr 1 0 (cntL l nb)) = true := by
 show (cntL l nb).all _ = true
 rw [zA6]
 intro x hx
 unfold cntL at hx
 obtain ⟨i, _, rfl⟩ := zB4.1 hx
 rfl
theorem cnt_len (l : List Int) (nb : Nat) : (cntL l nb).length = nb := by unfold cntL; simp
theorem cnt_get {l : List Int} {nb b : Nat} (h : b < nb) : (cntL l nb).getD b [] = [.int ((l.count (b : Int) : Nat) : Int)] := by
 unfold cntL
 simp [List.getD, h]
theorem cnt_snoc {l : List Int} {nb bn : Nat} (h : bn < nb) : (cntL l nb).set bn [.int (((l.count (bn : Int) : Nat) : Int) + 1)] = cntL (l ++ [(bn : Int)]) nb := by
 unfold cntL
 refine List.ext_getElem (by simp) fun i h1 h2 => ?_
 rw [List.getElem_set]
 simp only [List.getElem_map, List.getElem_range, List.count_append]
 by_cases e : bn = i
 · subst e; rw [if_pos rfl, List.count_singleton_self]; rfl
 · rw [if_neg e, List.count_singleton, if_neg (by simp; omega)]; rfl
theorem set_get {l : List (List AV)} {b : Nat} {x : List AV} (h : b < l.length) : (l.set b x).getD b [] = x := by
 simp [List.getD, h]
theorem mapV (l : List PVis) (v : PVis) : l.map encV ++ [encV v] = (l ++ [v]).map encV := by rw [zC2]; rfl
theorem visL_len (l : List Int) : (visL l).length = l.length := by unfold visL; simp
theorem take_snocZ {l : List Int} {k : Nat} (h : k < l.length) : l.take (k + 1) = l.take k ++ [l.getD k default] := by
 rw [zBi, zA1 h, getD_lt h]; rfl
set_option maxHeartbeats 4000000 in
set_option maxRecDepth 20000 in
theorem Whole9_spec (f : PForm) (hf : FIn f) (hform : formOk f = true) : PCall Tryz.prog 75 [.agg (encF f)] (.sl 2 ((visL (wholeL f)).map encV) .no) := by
 have hA : FAll f := FAll.of (by rw [formOk_eq, zA0] at hform; exact hform.1)
 have hw := whole9_spec f hf hA
 have hb := hA.good.ok.bars
 have hlen : (wholeL f).length ≤ 20000 := by rw [formOk_eq, zA0] at hform; simpa using hform.2
 have hin : ∀ k, k < (wholeL f).length → 0 ≤ (wholeL f).getD k default ∧ (wholeL f).getD k default < f.bars := fun k hk => whole_mem hform (getD_in hk)
 obtain ⟨nb, hnb⟩ : ∃ nb : Nat, f.bars = nb := ⟨f.bars.toNat, by
  have : 1 ≤ f.bars := by unfold formOk at hform; simp only [zA0, dEt] at hform; exact hform.1.1.1.1.1.1
  omega⟩
 generalize wholeL f = W at *
 refine PCall.body Tryz.func75 rfl rfl Tryz.ntmps75 rfl rfl ?_
 repeat' (first | refine aoQ rfl rfl rfl (fun hg => by first | exact std0 | exact pcW (hw) rfl rfl nd rfl nds | fail) (by exact rfl) ?_ | refine sqW ?_ | refine rgK (fun K' hK => ?_) | (refine aoN (hK _ _ ?_); clear hK K') | refine aoE (bxW rfl rfl rfl rfl rfl tI rfl rfl ?_) | refine aoE (EStep.makeInts (d := 11) (m := f.bars) rfl rfl rfl rfl rfl rfl rfl rfl (by decide) rfl tI rfl tI ⟨by omega, by omega⟩ ?_) | refine blK ?_)
 refine AWP.ownNil (d := 5) (sz := 2) rfl ?_
 have hr0 : List.replicate f.bars.toNat [AV.int 0] = cntL [] nb := by rw [hnb]; exact cnt_zero nb
 have hok3 : ∀ k, ([.var (encF f), .arr 1 0 (cntL (W.take k) nb), .own 2 ((visL (W.take k)).map encV).length] : Store).all (okObj 3) = true := fun k => by
  rw [zCe, zCe, cnt_ok]; rfl
 have hlen1 : ∀ k, ((visL (W.take k)).map encV).length = min k W.length := fun k => by rw [lLm, visL_len, zC4]
 refine lpD (ι := Nat) (fun k => [(1, .ptr 0 0), (3, .sl 1 (W.map encI) .no), (4, .sla 1 1 0 nb 0), (5, .sl 2 ((visL (W.take k)).map encV) (.own 2)), (6, .int k)]) (fun k => [.var (encF f), .arr 1 0 (cntL (W.take k) nb), .own 2 ((visL (W.take k)).map encV).length])
  (fun k => k ≤ W.length) (fun k => W.length - k) 3 (fun _ => rfl) 0 (nZl _) ⟨rfl, rfl, by rw [hnb]; rfl, rfl, rfl, tI⟩ (by show ([.var (encF f), .arr 1 0 (List.replicate f.bars.toNat [.int 0]), .own 2 0] : Store) = _; rw [hr0]; rfl) (fun _ _ => rfl) (fun k _ => hok3 k) ?_
 intro k hk
 by_cases hlt : k < W.length
 · obtain ⟨hb0, hb1⟩ := hin k hlt
   obtain ⟨b, hbk⟩ : ∃ b : Nat, W.getD k default = b := ⟨(W.getD k default).toNat, by omega⟩
   rw [hbk] at hb1
   have hbn : b < nb := by omega
   have etk := take_snocZ hlt
   rw [hbk] at etk
   have hvs := visL_snoc (W.take k) (b : Int)
   rw [← etk] at hvs
   have hcs := cnt_snoc (l := W.take k) hbn
   rw [← etk] at hcs
   have hget := cnt_get (l := W.take k) hbn
   have hcl := cnt_len (W.take k) nb
   have hll := hlen1 k
   have hcle : ((W.take k).count (b : Int)) ≤ 20000 := by
    have := List.count_le_length (a := (b : Int)) (l := W.take k)
    rw [zC4] at this; omega
   obtain ⟨C, hC⟩ : ∃ C, (W.take k).count (b : Int) = C := ⟨_, rfl⟩
   rw [hC] at hvs hcs hget hcle
   obtain ⟨Z, hZ⟩ : ∃ Z, cntL (W.take k) nb = Z := ⟨_, rfl⟩
   rw [hZ] at hcs hget hcl
   obtain ⟨V, hV⟩ : ∃ V, visL (W.take k) = V := ⟨_, rfl⟩
   rw [hV] at hvs hll
   rw [hZ, hV]
   have hs2 : (Z.set b [.int ((C : Int) + 1)]).getD b [] = [.int ((C : Int) + 1)] := set_get (by omega)
   have hsl : b < (Z.set b [AV.int ((C : Int) + 1)]).length := by rw [List.length_set]; omega
   have hzl : b < Z.length := by omega
   have hvl : V.length ≤ 20000 := by rw [lLm] at hll; omega
   repeat' (first | refine aoQ rfl rfl rfl (fun hg => by first | exact PRun.loadE tabOk rfl rfl nd rfl hzl hget rfl rfl | exact PRun.indexA0 tabOk rfl rfl nd rfl nd rfl (by decide) rfl ⟨by omega, by omega⟩ | exact iX encI W ((k : Nat) : Int) hbk (hb := by omega) | exact std0 | exact std1) (by exact rfl) ?_ | refine sqW ?_ | refine rgK (fun K' hK => ?_) | (refine aoN (hK _ _ ?_); clear hK K') | refine aoE (EStep.storeE (l := 1) (i := b) tabOk rfl rfl rfl tI rfl hzl rfl tI rfl rfl rfl rfl rfl rfl ?_) | (refine cdN rfl tI (fun hc => ?_) (fun hc => ?_) <;> try simp only [dEt] at hc) | refine blK ?_ | refine exW ?_ | refine skW ?_ | refine rtW ?_)
   all_goals (first | (exfalso; omega) | skip)
   generalize hZ2 : Z.set b [AV.int ((C : Int) + 1)] = Z2 at *
   refine AWP.drawY (fun j => match j with | 0 => [.var (encF f), .arr 1 0 Z2, .own 2 (V.map encV).length] | _ => [.var (encF f), .arr 1 0 Z2, .own 2 (V.map encV ++ [encV ⟨b, (C : Int) + 1⟩]).length]) (by rw [← hZ2]; rfl) (by kernel_rfl) (by decide +kernel) rfl (by decide +kernel) (fun K' hK => ?_)
   repeat' (first
    | refine yqQ (a := 0) (b := 0) rfl (by decide +kernel) (by decide +kernel) rfl rfl rfl (fun k h1 h2 hg => by (have hk : k = 0 := (by omega)); (rcases hk with rfl) <;> (first | exact PRun.loadE tabOk rfl rfl nd rfl hsl hs2 rfl rfl | exact PRun.indexA0 tabOk rfl rfl nd rfl nd rfl (by decide) rfl ⟨by omega, by omega⟩ | exact iX encI W ((k : Nat) : Int) hbk (hb := by omega) | exact std0 | exact pbD tabOk rfl rfl nds | exact pbS tabOk rfl rfl nds | exact std1)) (by exact rfl) ?_
    | refine yqQ (a := 0) (b := 1) rfl (by decide +kernel) (by decide +kernel) rfl rfl rfl (fun k h1 h2 hg => by (have hk : k = 0 ∨ k = 1 := (by omega)); (rcases hk with rfl | rfl) <;> (first | exact PRun.loadE tabOk rfl rfl nd rfl hsl hs2 rfl rfl | exact PRun.indexA0 tabOk rfl rfl nd rfl nd rfl (by decide) rfl ⟨by omega, by omega⟩ | exact iX encI W ((k : Nat) : Int) hbk (hb := by omega) | exact std0 | exact pbD tabOk rfl rfl nds | exact pbS tabOk rfl rfl nds | exact std1)) (by exact rfl) ?_
    | refine yqQ (a := 1) (b := 1) rfl (by decide +kernel) (by decide +kernel) rfl rfl rfl (fun k h1 h2 hg => by (have hk : k = 1 := (by omega)); (rcases hk with rfl) <;> (first | exact PRun.loadE tabOk rfl rfl nd rfl hsl hs2 rfl rfl | exact PRun.indexA0 tabOk rfl rfl nd rfl nd rfl (by decide) rfl ⟨by omega, by omega⟩ | exact iX encI W ((k : Nat) : Int) hbk (hb := by omega) | exact std0 | exact pbD tabOk rfl rfl nds | exact pbS tabOk rfl rfl nds | exact std1)) (by exact rfl) ?_
    | refine yqQ (a := 0) (b := 2) rfl (by decide +kernel) (by decide +kernel) rfl rfl rfl (fun k h1 h2 hg => by (have hk : k = 0 ∨ k = 1 ∨ k = 2 := (by omega)); (rcases hk with rfl | rfl | rfl) <;> (first | exact PRun.loadE tabOk rfl rfl nd rfl hsl hs2 rfl rfl | exact PRun.indexA0 tabOk rfl rfl nd rfl nd rfl (by decide) rfl ⟨by omega, by omega⟩ | exact iX encI W ((k : Nat) : Int) hbk (hb := by omega) | exact std0 | exact pbD tabOk rfl rfl nds | exact pbS tabOk rfl rfl nds | exact std1)) (by exact rfl) ?_
    | refine yqQ (a := 1) (b := 2) rfl (by decide +kernel) (by decide +kernel) rfl rfl rfl (fun k h1 h2 hg => by (have hk : k = 1 ∨ k = 2 := (by omega)); (rcases hk with rfl | rfl) <;> (first | exact PRun.loadE tabOk rfl rfl nd rfl hsl hs2 rfl rfl | exact PRun.indexA0 tabOk rfl rfl nd rfl nd rfl (by decide) rfl ⟨by omega, by omega⟩ | exact iX encI W ((k : Nat) : Int) hbk (hb := by omega) | exact std0 | exact pbD tabOk rfl rfl nds | exact pbS tabOk rfl rfl nds | exact std1)) (by exact rfl) ?_
    | refine yqQ (a := 2) (b := 2) rfl (by decide +kernel) (by decide +kernel) rfl rfl rfl (fun k h1 h2 hg => by (have hk : k = 2 := (by omega)); (rcases hk with rfl) <;> (first | exact PRun.loadE tabOk rfl rfl nd rfl hsl hs2 rfl rfl | exact PRun.indexA0 tabOk rfl rfl nd rfl nd rfl (by decide) rfl ⟨by omega, by omega⟩ | exact iX encI W ((k : Nat) : Int) hbk (hb := by omega) | exact std0 | exact pbD tabOk rfl rfl nds | exact pbS tabOk rfl rfl nds | exact std1)) (by exact rfl) ?_)
   refine YQ.e (v := .sl 2 (V.map encV ++ [encV ⟨b, (C : Int) + 1⟩]) (.own 2)) (d := some 41) rfl rfl rfl ?_ ?_
   · intro env' he
     exact apO (l := 2) tabOk rfl rfl rfl (by decide) (Rd.w ((rdv_congr (he 27 (by decide +kernel))).trans rfl) (by rw [rdn_congr (he 27 (by decide +kernel))]; first | exact tI | exact rfl)) rfl (Rd.w ((rdv_congr (he 40 (by decide +kernel))).trans rfl) (by rw [rdn_congr (he 40 (by decide +kernel))]; first | exact tI | exact rfl)) (.sl rfl (by intro x hx; rcases zAf.1 hx with rfl; rfl)) (LOk.of (tabOk.get rfl)) (LOk.of (tabOk.get rfl)) rfl rfl (by simp only [lLm, lLa, zAe, zAn]; omega) (by simp only [lLm, lLa, zAe, zAn]; omega) ⟨rfl, rfl⟩
   repeat' (first
    | refine yqQ (a := 0) (b := 0) rfl (by decide +kernel) (by decide +kernel) rfl rfl rfl (fun k h1 h2 hg => by (have hk : k = 0 := (by omega)); (rcases hk with rfl) <;> (first | exact std0 | exact pbD tabOk rfl rfl nds | exact std1)) (by exact rfl) ?_
    | refine yqQ (a := 0) (b := 1) rfl (by decide +kernel) (by decide +kernel) rfl rfl rfl (fun k h1 h2 hg => by (have hk : k = 0 ∨ k = 1 := (by omega)); (rcases hk with rfl | rfl) <;> (first | exact std0 | exact pbD tabOk rfl rfl nds | exact std1)) (by exact rfl) ?_
    | refine yqQ (a := 1) (b := 1) rfl (by decide +kernel) (by decide +kernel) rfl rfl rfl (fun k h1 h2 hg => by (have hk : k = 1 := (by omega)); (rcases hk with rfl) <;> (first | exact std0 | exact pbD tabOk rfl rfl nds | exact std1)) (by exact rfl) ?_
    | refine yqQ (a := 0) (b := 2) rfl (by decide +kernel) (by decide +kernel) rfl rfl rfl (fun k h1 h2 hg => by (have hk : k = 0 ∨ k = 1 ∨ k = 2 := (by omega)); (rcases hk with rfl | rfl | rfl) <;> (first | exact std0 | exact pbD tabOk rfl rfl nds | exact std1)) (by exact rfl) ?_
    | refine yqQ (a := 1) (b := 2) rfl (by decide +kernel) (by decide +kernel) rfl rfl rfl (fun k h1 h2 hg => by (have hk : k = 1 ∨ k = 2 := (by omega)); (rcases hk with rfl | rfl) <;> (first | exact std0 | exact pbD tabOk rfl rfl nds | exact std1)) (by exact rfl) ?_
    | refine yqQ (a := 2) (b := 2) rfl (by decide +kernel) (by decide +kernel) rfl rfl rfl (fun k h1 h2 hg => by (have hk : k = 2 := (by omega)); (rcases hk with rfl) <;> (first | exact std0 | exact pbD tabOk rfl rfl nds | exact std1)) (by exact rfl) ?_)
   refine YQ.nil (hK _ _ ?_)
   clear hK K'
   repeat' (first | refine aoQ rfl rfl rfl (fun hg => by exact std0) (by exact rfl) ?_ | refine rgK (fun K' hK => ?_) | (refine aoN (hK _ _ ?_); clear hK K'))
   refine ⟨k + 1, hlt, by omega, ⟨rfl, rfl, rfl, ?_, rfl, tI⟩, ?_⟩
   · rw [hvs, ← mapV]; rfl
   · rw [hvs, ← hcs, ← mapV]; rfl
 · obtain rfl : k = W.length := by omega
   rw [zBl]
   repeat' (first | refine aoQ rfl rfl rfl (fun hg => by first | exact std0 | exact std1) (by exact rfl) ?_ | refine sqW ?_ | refine rgK (fun K' hK => ?_) | (refine aoN (hK _ _ ?_); clear hK K') | (refine cdN rfl tI (fun hc => ?_) (fun hc => ?_) <;> try simp only [dEt] at hc) | refine blK ?_ | refine exW ?_ | refine skW ?_ | refine rtW ?_)
   all_goals (first | (exfalso; omega) | skip)
   exact ⟨.inr rfl, Ent.of rfl⟩
theorem has31_spec (l : List PVis) (v : PVis) (hl : l.length ≤ 1000000000) : PCall Tryz.prog 74 [.sl 2 (l.map encV) .no, .agg (encV v)] (.b (decide (v ∈ l))) := by
 refine PCall.body Tryz.func74 rfl rfl Tryz.ntmps74 rfl rfl ?_
 repeat' (first | refine aoQ rfl rfl rfl (fun hg => by exact std0) (by exact rfl) ?_ | refine sqW ?_ | refine rgK (fun K' hK => ?_) | (refine aoN (hK _ _ ?_); clear hK K') | refine aoE (bxW rfl rfl rfl rfl rfl tI rfl rfl ?_) | refine blK ?_)
 refine lpW (ι := Nat) (fun k => [(0, .sl 2 (l.map encV) .no), (3, .ptr 0 0), (5, .int k)]) (fun _ => [.var (encV v)]) (fun k => k ≤ l.length ∧ ∀ j, j < k → eqVis (l.getD j default) v = false) (fun k => l.length - k) 0 ⟨nZl _, fun j h => absurd h (by omega)⟩ ⟨rfl, rfl, rfl, tI⟩ rfl ?_
 rintro k ⟨hk, hall⟩
 by_cases hlt : k < l.length
 · obtain ⟨x, hx⟩ : ∃ x, l.getD k default = x := ⟨_, rfl⟩
   have hall' : eqVis x v = false → ∀ j, j < k + 1 → eqVis (l.getD j default) v = false := fun h j hj => lt_succ_cases hall (by rw [hx]; exact h) hj
   repeat' (first | refine aoQ rfl rfl rfl (fun hg => by first | exact std0 | exact std1) (by exact rfl) ?_ | refine sqW ?_ | refine rgK (fun K' hK => ?_) | (refine aoN (hK _ _ ?_); clear hK K') | (refine cdN rfl tI (fun hc => ?_) (fun hc => ?_) <;> try simp only [dEt] at hc) | refine blK ?_ | refine exW ?_ | refine skW ?_ | refine rtW ?_ | refine dK2 (by decide +kernel) (by kernel_rfl) (by decide +kernel) rfl (fun K' hK => ?_) | (refine aqN (hK _ ?_); clear hK K') | refine aqQ rfl rfl (fun hg => by first | exact iX encV l ((k : Nat) : Int) hx (hb := by omega) | exact std0 | exact PRun.eqS flV rfl rfl nd rfl nd rfl | fail) (by exact rfl) ?_)
   all_goals first | (exfalso; omega) | skip
   · refine ⟨.inr rfl, Ent.b ?_⟩
     have he : x = v := ((eqVis_iff x v).1 hc).symm
     rw [decide_eq_true (he ▸ hx ▸ getD_in hlt)]
   · exact ⟨k + 1, ⟨by omega, hall' hc⟩, by omega, ⟨rfl, rfl, rfl, tI⟩, rfl⟩
 · repeat' (first | refine aoQ rfl rfl rfl (fun hg => by first | exact std0 | exact std1) (by exact rfl) ?_ | refine sqW ?_ | refine rgK (fun K' hK => ?_) | (refine aoN (hK _ _ ?_); clear hK K') | (refine cdN rfl tI (fun hc => ?_) (fun hc => ?_) <;> try simp only [dEt] at hc) | refine blK ?_ | refine exW ?_ | refine skW ?_ | refine rtW ?_ | refine dK2 (by decide +kernel) (by kernel_rfl) (by decide +kernel) rfl (fun K' hK => ?_) | refine aqQ rfl rfl (fun hg => by first | exact std0 | exact std1) (by exact rfl) ?_)
   all_goals first | (exfalso; omega) | skip
   refine ⟨.inr rfl, Ent.b ?_⟩
   rw [decide_eq_false]
   intro hm
   obtain ⟨j, hj, e⟩ := zDc hm
   have h9 := hall j (by omega)
   rw [getD_lt hj, e] at h9
   have := (eqVis_iff v v).2 rfl
   rw [this] at h9
   exact absurd h9 (by decide)
theorem any_takeZ {α : Type} [Inhabited α] {p : α → Bool} {l : List α} {k : Nat} (h : k < l.length) : (l.take (k + 1)).any p = ((l.take k).any p || p (l.getD k default)) := by
 rw [zBi, zA1 h, List.any_append, getD_lt h]
 simp
set_option maxHeartbeats 4000000 in
set_option maxRecDepth 20000 in
theorem Unfold9_spec (f : PForm) (hf : FIn f) (hform : formOk f = true) : PCall Tryz.prog 73 [.agg (encF f)] (.tup [.sl 2 ((visits f).map encV) .no, .int 0]) := by
 have h1 := valid9_spec f hf
 rw [hform] at h1
 have h2 := Whole9_spec f hf hform
 have hlen : (visL (wholeL f)).length ≤ 20000 := by rw [visL_len]; rw [formOk_eq, zA0] at hform; simpa using hform.2
 have hwl : (wholeL f).length ≤ 20000 := by rw [formOk_eq, zA0] at hform; simpa using hform.2
 have hol : ∀ j, (outL f j).length ≤ 20000 := fun j => zC3 (outL_len f j) hwl
 have e9 : outL f (visL (wholeL f)).length = visits f := by
  unfold outL visits
  rw [zBl]
 have hcl := hf.cuts
 have hsuc : ∀ j (h : j < (visL (wholeL f)).length), outL f (j + 1) = if (f.cuts.any fun c => leaves c ((visL (wholeL f)).getD j default)) = true then outL f j else outL f j ++ [(visL (wholeL f)).getD j default] := fun j h => outL_succ f (by rw [getD_lt h]; exact zA1 h)
 obtain ⟨O, hO⟩ : ∃ O : Nat → List PVis, outL f = O := ⟨_, rfl⟩
 rw [hO] at hol e9 hsuc
 have hO0 : O 0 = [] := by rw [← hO]; rfl
 rw [← e9]
 generalize visL (wholeL f) = WV at *
 refine PCall.body Tryz.func73 rfl rfl Tryz.ntmps73 rfl rfl ?_
 repeat' (first | refine aoQ rfl rfl rfl (fun hg => by first | exact std0 | exact pcW (h1) rfl rfl nd rfl nds | fail) (by exact rfl) ?_ | refine sqW ?_ | refine rgK (fun K' hK => ?_) | (refine aoN (hK _ _ ?_); clear hK K') | refine aoE (bxW rfl rfl rfl rfl rfl tI rfl rfl ?_))
 refine cdW rfl tI (fun hc => absurd hc (by decide)) (fun hc => ?_)
 repeat' (first | refine aoQ rfl rfl rfl (fun hg => by first | exact std0 | exact pcW (h2) rfl rfl nd rfl nds | fail) (by exact rfl) ?_ | refine sqW ?_ | refine rgK (fun K' hK => ?_) | (refine aoN (hK _ _ ?_); clear hK K') | refine blK ?_ | refine skW ?_)
 refine AWP.ownNil (d := 5) (sz := 2) rfl ?_
 refine lpD (ι := Nat) (fun k => [(1, .ptr 0 0), (4, .sl 2 (WV.map encV) .no), (5, .sl 2 ((O k).map encV) (.own 1)), (6, .int k)]) (fun k => [.var (encF f), .own 2 ((O k).map encV).length])
  (fun k => k ≤ WV.length) (fun k => WV.length - k) 2 (fun _ => rfl) 0 (nZl _) ⟨rfl, rfl, by rw [hO0]; rfl, rfl, tI⟩ (by rw [hO0]; rfl) (fun _ _ => rfl) (fun _ _ => rfl) ?_
 intro k hk
 by_cases hlt : k < WV.length
 · obtain ⟨v, hv⟩ : ∃ v, WV.getD k default = v := ⟨_, rfl⟩
   have hs := hsuc k hlt
   rw [hv] at hs
   have ho := hol k
   obtain ⟨o, hoo⟩ : ∃ o, O k = o := ⟨_, rfl⟩
   rw [hoo] at hs ho
   rw [hoo]
   repeat' (first | refine aoQ rfl rfl rfl (fun hg => by first | exact std0 | exact std1) (by exact rfl) ?_ | refine sqW ?_ | refine rgK (fun K' hK => ?_) | (refine aoN (hK _ _ ?_); clear hK K') | (refine cdN rfl tI (fun hc => ?_) (fun hc => ?_) <;> try simp only [dEt] at hc) | refine blK ?_ | refine exW ?_ | refine skW ?_ | refine rtW ?_)
   all_goals (first | (exfalso; omega) | skip)
   refine lpD (ι := Nat) (fun c => [(1, .ptr 0 0), (4, .sl 2 (WV.map encV) .no), (5, .sl 2 (o.map encV) (.own 1)), (6, .int k), (7, .b ((f.cuts.take c).any fun c => leaves c v)), (8, .int c)]) (fun _ => [.var (encF f), .own 2 (o.map encV).length])
    (fun c => c ≤ f.cuts.length) (fun c => f.cuts.length - c) 2 (fun _ => rfl) 0 (nZl _) ⟨rfl, rfl, rfl, rfl, rfl, rfl, tI⟩ rfl (fun _ _ => rfl) (fun _ _ => rfl) ?_
   intro c hc9
   by_cases hct : c < f.cuts.length
   · obtain ⟨C, hC⟩ : ∃ C, f.cuts.getD c default = C := ⟨_, rfl⟩
     have hnx := any_takeZ (p := fun c => leaves c v) hct
     rw [hC] at hnx
     have hle := leaves9_spec C v
     repeat' (first | refine aoQ rfl rfl rfl (fun hg => by first | exact iX encV WV ((k : Nat) : Int) hv (hb := by omega) | exact std0 | exact std1) (by exact rfl) ?_ | refine sqW ?_ | refine rgK (fun K' hK => ?_) | (refine aoN (hK _ _ ?_); clear hK K') | (refine cdN rfl tI (fun hc => ?_) (fun hc => ?_) <;> try simp only [dEt] at hc) | refine blK ?_ | refine exW ?_ | refine skW ?_ | refine dK2 (by decide +kernel) (by kernel_rfl) (by decide +kernel) rfl (fun K' hK => ?_) | (refine aqN (hK _ ?_); clear hK K') | refine aqQ rfl rfl (fun hg => by first | exact iX encCt f.cuts ((c : Nat) : Int) hC (hb := by omega) | exact iX encV WV ((k : Nat) : Int) hv (hb := by omega) | exact std0 | exact pcW (hle) rfl rfl nd rfl nds | fail) (by exact rfl) ?_)
     all_goals (first | (exfalso; omega) | skip)
     exact ⟨c + 1, hct, by omega, ⟨rfl, rfl, rfl, rfl, by rw [hnx]; rfl, rfl, tI⟩, rfl⟩
   · obtain rfl : c = f.cuts.length := by omega
     rw [zBl]
     cases hany : f.cuts.any fun c => leaves c v with
     | true =>
       rw [hany, if_pos rfl] at hs
       repeat' (first | refine aoQ rfl rfl rfl (fun hg => by first | exact iX encV WV ((k : Nat) : Int) hv (hb := by omega) | exact std0 | exact pbS tabOk rfl rfl nds | exact std1) (by exact rfl) ?_ | refine sqW ?_ | refine rgK (fun K' hK => ?_) | (refine aoN (hK _ _ ?_); clear hK K') | refine aoE (EStep.appendOwn tabOk rfl rfl rfl (by decide) (Rd.w rfl tI) rfl (Rd.w rfl tI) (.sl rfl (by first | (intro x hx; rcases zAf.1 hx with rfl; rfl) | exact one_by8 _ | exact one_ints _)) (LOk.of (tabOk.get rfl)) (LOk.of (tabOk.get rfl)) rfl rfl (by simp only [lLm, lLa, zAe, zAn]; omega) (by simp only [lLm, lLa, zAe, zAn]; omega) ?_) | (refine cdN rfl tI (fun hc => ?_) (fun hc => ?_) <;> try simp only [dEt] at hc) | refine blK ?_ | refine exW ?_ | refine skW ?_ | refine dK2 (by decide +kernel) (by kernel_rfl) (by decide +kernel) rfl (fun K' hK => ?_) | refine aqQ rfl rfl (fun hg => by first | exact iX encV WV ((k : Nat) : Int) hv (hb := by omega) | exact std0 | exact std1) (by exact rfl) ?_)
       all_goals (first | (exact absurd hc (by decide)) | (exfalso; omega) | skip)
       exact ⟨k + 1, hlt, by omega, ⟨rfl, rfl, by rw [hs]; rfl, rfl, tI⟩, by rw [hs]; rfl⟩
     | false =>
       rw [hany, if_neg (by decide)] at hs
       repeat' (first | refine aoQ rfl rfl rfl (fun hg => by first | exact iX encV WV ((k : Nat) : Int) hv (hb := by omega) | exact std0 | exact pbS tabOk rfl rfl nds | exact std1) (by exact rfl) ?_ | refine sqW ?_ | refine rgK (fun K' hK => ?_) | (refine aoN (hK _ _ ?_); clear hK K') | refine aoE (EStep.appendOwn tabOk rfl rfl rfl (by decide) (Rd.w rfl tI) rfl (Rd.w rfl tI) (.sl rfl (by first | (intro x hx; rcases zAf.1 hx with rfl; rfl) | exact one_by8 _ | exact one_ints _)) (LOk.of (tabOk.get rfl)) (LOk.of (tabOk.get rfl)) rfl rfl (by simp only [lLm, lLa, zAe, zAn]; omega) (by simp only [lLm, lLa, zAe, zAn]; omega) ?_) | (refine cdN rfl tI (fun hc => ?_) (fun hc => ?_) <;> try simp only [dEt] at hc) | refine blK ?_ | refine exW ?_ | refine skW ?_ | refine dK2 (by decide +kernel) (by kernel_rfl) (by decide +kernel) rfl (fun K' hK => ?_) | refine aqQ rfl rfl (fun hg => by first | exact iX encV WV ((k : Nat) : Int) hv (hb := by omega) | exact std0 | exact std1) (by exact rfl) ?_)
       all_goals (first | (exact absurd hc (by decide)) | (exfalso; omega) | skip)
       refine ⟨k + 1, hlt, by omega, ⟨rfl, rfl, ?_, rfl, tI⟩, ?_⟩
       · rw [hs, ← mapV]; rfl
       · rw [hs, ← mapV, lLa]; rfl
 · obtain rfl : k = WV.length := by omega
   repeat' (first | refine aoQ rfl rfl rfl (fun hg => by first | exact std0 | exact std1) (by exact rfl) ?_ | refine sqW ?_ | refine rgK (fun K' hK => ?_) | (refine aoN (hK _ _ ?_); clear hK K') | (refine cdN rfl tI (fun hc => ?_) (fun hc => ?_) <;> try simp only [dEt] at hc) | refine blK ?_ | refine exW ?_ | refine skW ?_ | refine rtW ?_)
   all_goals (first | (exfalso; omega) | skip)
   exact ⟨.inr rfl, Ent.of rfl⟩
set_option maxHeartbeats 4000000 in
set_option maxRecDepth 20000 in
theorem reason31_spec (s : Score) (hs : s.Small) (hsc : scoreOk s = true) (r : Room) (hf : FIn r.form) (hform : formOk r.form = true) (m : Mom) (hd : durOk m.pos = true) :
 PCall Tryz.prog 23 [.agg (encS s), .agg (encRm r), .agg (encMo m)] (.int (reason s r m)) := by
 have hbl := hs.1
 have hbar := r7bar_spec s.bars m.bar (by omega)
 have hbi := barAt_in s.bars m.bar
 have t1 := ticks6_spec m.pos
 by_cases h0 : barAt s.bars m.bar < 0
 · rw [show reason s r m = 32 from reason_no h0]
   generalize barAt s.bars m.bar = i at *
   refine PCall.body Tryz.func23 rfl rfl Tryz.ntmps23 rfl rfl ?_
   repeat' (first | refine aoQ rfl rfl rfl (fun hg => by first | exact std0 | exact pcW (hbar) rfl rfl nd rfl nds | fail) (by exact rfl) ?_ | refine sqW ?_ | refine rgK (fun K' hK => ?_) | (refine aoN (hK _ _ ?_); clear hK K') | refine aoE (bxW rfl rfl rfl rfl rfl tI rfl rfl ?_))
   refine cdW rfl tI (fun hc => ?_) (fun hc => absurd hc (by simp; omega))
   repeat' (first | refine aoQ rfl rfl rfl (fun hg => by exact std0) (by exact rfl) ?_ | refine sqW ?_ | refine rgK (fun K' hK => ?_) | (refine aoN (hK _ _ ?_); clear hK K') | refine rtW ?_)
   exact ⟨.inr rfl, Ent.of rfl⟩
 · obtain ⟨i, hi⟩ : ∃ i : Nat, barAt s.bars m.bar = i := ⟨(barAt s.bars m.bar).toNat, by omega⟩
   have hil : i < s.bars.length := by omega
   obtain ⟨b1, b2, b3⟩ := bar_ticks hsc hil
   have hun := under_ticks hd b1
   have hre : reason s r m = if under m.pos (s.bars.getD i default).len = false then 3 else forceN (force r.form ⟨i, m.pass⟩) := by
    unfold reason
    rw [hi, if_neg (by omega), zAa]
   obtain ⟨B, hB⟩ : ∃ B, s.bars.getD i default = B := ⟨_, rfl⟩
   rw [hB] at hun hre
   have t2 := ticks6_spec B.len
   rw [hre]
   rw [hi] at hbar
   by_cases hu : ticksX m.pos < ticksX B.len
   · rw [decide_eq_true hu] at hun
     rw [if_neg (by rw [hun]; decide)]
     have u1 := Unfold9_spec r.form hf hform
     have u2 := Whole9_spec r.form hf hform
     have hwl : (visL (wholeL r.form)).length ≤ 20000 := by rw [visL_len]; rw [formOk_eq, zA0] at hform; simpa using hform.2
     have hvl : (visits r.form).length ≤ 20000 := zC3 (by unfold visits; exact List.length_filter_le _ _) hwl
     have g1 := has31_spec (visits r.form) ⟨i, m.pass⟩ (by omega)
     have g2 := has31_spec (visL (wholeL r.form)) ⟨i, m.pass⟩ (by omega)
     unfold force
     by_cases hv : (⟨i, m.pass⟩ : PVis) ∈ visits r.form
     · rw [if_pos hv]
       rw [decide_eq_true hv] at g1
       refine PCall.body Tryz.func23 rfl rfl Tryz.ntmps23 rfl rfl ?_
       repeat' (first | refine aoQ rfl rfl rfl (fun hg => by first | exact std0 | exact pcW (hbar) rfl rfl nd rfl nds | fail) (by exact rfl) ?_ | refine sqW ?_ | refine rgK (fun K' hK => ?_) | (refine aoN (hK _ _ ?_); clear hK K') | refine aoE (bxW rfl rfl rfl rfl rfl tI rfl rfl ?_))
       refine cdW rfl tI (fun hc => absurd hc (by simp)) (fun hc => ?_)
       repeat' (first | refine aoQ rfl rfl rfl (fun hg => by first | exact std0 | exact pcW (u1) rfl rfl nd rfl nds | exact pcW (g1) rfl rfl nd rfl nds | exact pbD tabOk rfl rfl nds | fail) (by exact rfl) ?_ | refine sqW ?_ | refine rgK (fun K' hK => ?_) | (refine aoN (hK _ _ ?_); clear hK K') | refine aoE (stW tabOk rfl rfl rfl tI rfl rfl tI rfl rfl rfl rfl rfl rfl rfl ?_) | refine aoE (alW tabOk rfl rfl rfl rfl rfl rfl ?_) | (refine cdN rfl tI (fun hc => ?_) (fun hc => ?_) <;> try simp only [dEt] at hc) | refine skW ?_ | refine rtW ?_ | refine dK2 (by decide +kernel) (by kernel_rfl) (by decide +kernel) rfl (fun K' hK => ?_) | (refine aqN (hK _ ?_); clear hK K') | refine aqQ rfl rfl (fun hg => by first | exact iX encB s.bars ((i : Nat) : Int) hB (hb := by omega) | exact std0 | exact pcW (t1) rfl rfl nd rfl nds | exact pcW (t2) rfl rfl nd rfl nds | fail) (by exact rfl) ?_)
       all_goals (first | (exact absurd hc (by decide)) | (exfalso; simp at hc; done) | (exfalso; omega) | (exfalso; simp at hc; omega) | skip)
       exact ⟨.inr rfl, Ent.of rfl⟩
     · rw [if_neg hv]
       rw [decide_eq_false hv] at g1
       by_cases hw : (⟨i, m.pass⟩ : PVis) ∈ visL (wholeL r.form)
       · rw [if_pos hw]
         rw [decide_eq_true hw] at g2
         refine PCall.body Tryz.func23 rfl rfl Tryz.ntmps23 rfl rfl ?_
         repeat' (first | refine aoQ rfl rfl rfl (fun hg => by first | exact std0 | exact pcW (hbar) rfl rfl nd rfl nds | fail) (by exact rfl) ?_ | refine sqW ?_ | refine rgK (fun K' hK => ?_) | (refine aoN (hK _ _ ?_); clear hK K') | refine aoE (bxW rfl rfl rfl rfl rfl tI rfl rfl ?_))
         refine cdW rfl tI (fun hc => absurd hc (by simp)) (fun hc => ?_)
         repeat' (first | refine aoQ rfl rfl rfl (fun hg => by first | exact std0 | exact pcW (u1) rfl rfl nd rfl nds | exact pcW (g1) rfl rfl nd rfl nds | exact pbD tabOk rfl rfl nds | fail) (by exact rfl) ?_ | refine sqW ?_ | refine rgK (fun K' hK => ?_) | (refine aoN (hK _ _ ?_); clear hK K') | refine aoE (stW tabOk rfl rfl rfl tI rfl rfl tI rfl rfl rfl rfl rfl rfl rfl ?_) | refine aoE (alW tabOk rfl rfl rfl rfl rfl rfl ?_) | (refine cdN rfl tI (fun hc => ?_) (fun hc => ?_) <;> try simp only [dEt] at hc) | refine skW ?_ | refine rtW ?_ | refine dK2 (by decide +kernel) (by kernel_rfl) (by decide +kernel) rfl (fun K' hK => ?_) | (refine aqN (hK _ ?_); clear hK K') | refine aqQ rfl rfl (fun hg => by first | exact iX encB s.bars ((i : Nat) : Int) hB (hb := by omega) | exact std0 | exact pcW (t1) rfl rfl nd rfl nds | exact pcW (t2) rfl rfl nd rfl nds | exact pcW (u2) rfl rfl nd rfl nds | exact pcW (g2) rfl rfl nd rfl nds | fail) (by exact rfl) ?_)
         all_goals (first | (exact absurd hc (by decide)) | (exfalso; simp at hc; done) | (exfalso; omega) | (exfalso; simp at hc; omega) | skip)
         exact ⟨.inr rfl, Ent.of rfl⟩
       · rw [if_neg hw]
         rw [decide_eq_false hw] at g2
         refine PCall.body Tryz.func23 rfl rfl Tryz.ntmps23 rfl rfl ?_
         repeat' (first | refine aoQ rfl rfl rfl (fun hg => by first | exact std0 | exact pcW (hbar) rfl rfl nd rfl nds | fail) (by exact rfl) ?_ | refine sqW ?_ | refine rgK (fun K' hK => ?_) | (refine aoN (hK _ _ ?_); clear hK K') | refine aoE (bxW rfl rfl rfl rfl rfl tI rfl rfl ?_))
         refine cdW rfl tI (fun hc => absurd hc (by simp)) (fun hc => ?_)
         repeat' (first | refine aoQ rfl rfl rfl (fun hg => by first | exact std0 | exact pcW (u1) rfl rfl nd rfl nds | exact pcW (g1) rfl rfl nd rfl nds | exact pbD tabOk rfl rfl nds | fail) (by exact rfl) ?_ | refine sqW ?_ | refine rgK (fun K' hK => ?_) | (refine aoN (hK _ _ ?_); clear hK K') | refine aoE (stW tabOk rfl rfl rfl tI rfl rfl tI rfl rfl rfl rfl rfl rfl rfl ?_) | refine aoE (alW tabOk rfl rfl rfl rfl rfl rfl ?_) | (refine cdN rfl tI (fun hc => ?_) (fun hc => ?_) <;> try simp only [dEt] at hc) | refine skW ?_ | refine rtW ?_ | refine dK2 (by decide +kernel) (by kernel_rfl) (by decide +kernel) rfl (fun K' hK => ?_) | (refine aqN (hK _ ?_); clear hK K') | refine aqQ rfl rfl (fun hg => by first | exact iX encB s.bars ((i : Nat) : Int) hB (hb := by omega) | exact std0 | exact pcW (t1) rfl rfl nd rfl nds | exact pcW (t2) rfl rfl nd rfl nds | exact pcW (u2) rfl rfl nd rfl nds | exact pcW (g2) rfl rfl nd rfl nds | fail) (by exact rfl) ?_)
         all_goals (first | (exact absurd hc (by decide)) | (exfalso; simp at hc; done) | (exfalso; omega) | (exfalso; simp at hc; omega) | skip)
         exact ⟨.inr rfl, Ent.of rfl⟩
   · rw [decide_eq_false hu] at hun
     rw [if_pos hun]
     refine PCall.body Tryz.func23 rfl rfl Tryz.ntmps23 rfl rfl ?_
     repeat' (first | refine aoQ rfl rfl rfl (fun hg => by first | exact std0 | exact pcW (hbar) rfl rfl nd rfl nds | fail) (by exact rfl) ?_ | refine sqW ?_ | refine rgK (fun K' hK => ?_) | (refine aoN (hK _ _ ?_); clear hK K') | refine aoE (bxW rfl rfl rfl rfl rfl tI rfl rfl ?_))
     refine cdW rfl tI (fun hc => absurd hc (by simp)) (fun hc => ?_)
     repeat' (first | refine aoQ rfl rfl rfl (fun hg => by exact std0) (by exact rfl) ?_ | refine sqW ?_ | refine rgK (fun K' hK => ?_) | (refine aoN (hK _ _ ?_); clear hK K') | (refine cdN rfl tI (fun hc => ?_) (fun hc => ?_) <;> try simp only [dEt] at hc) | refine skW ?_ | refine rtW ?_ | refine dK2 (by decide +kernel) (by kernel_rfl) (by decide +kernel) rfl (fun K' hK => ?_) | (refine aqN (hK _ ?_); clear hK K') | refine aqQ rfl rfl (fun hg => by first | exact iX encB s.bars ((i : Nat) : Int) hB (hb := by omega) | exact std0 | exact pcW (t1) rfl rfl nd rfl nds | exact pcW (t2) rfl rfl nd rfl nds | fail) (by exact rfl) ?_)
     all_goals (first | (exact absurd hc (by decide)) | (exfalso; simp at hc; done) | (exfalso; omega) | (exfalso; simp at hc; omega) | skip)
     exact ⟨.inr rfl, Ent.of rfl⟩
theorem right31_spec (s : Score) (hs : s.Small) (e : Ed.Edition) (r : Room) (hf : FIn r.form) : PCall Tryz.prog 45 [.agg (encS s), .agg (Ed.encE e), .agg (encRm r)] (.b (rightB s e r)) := by
 have h1 := valid8_spec s hs
 have h2 := Ed.form_spec e
 have h3 := room31_spec s hs r hf
 rw [room_eq] at h3
 refine PCall.body Tryz.func45 rfl rfl Tryz.ntmps45 rfl rfl ?_
 repeat' (first | refine aoQ rfl rfl rfl (fun hg => by first | exact std0 | exact pcW (h1) rfl rfl nd rfl nds | exact pcW (h2) rfl rfl nd rfl nds | exact pcW (h3) rfl rfl nd rfl nds | fail) (by exact rfl) ?_ | refine sqW ?_ | refine rgK (fun K' hK => ?_) | (refine aoN (hK _ _ ?_); clear hK K') | refine aoE (bxW rfl rfl rfl rfl rfl tI rfl rfl ?_) | refine rtW ?_)
 exact ⟨.inr rfl, Ent.b rfl⟩
theorem named31_spec (e : Ed.Edition) (hw : Ed.Wf e) (c : Call) : PCall Tryz.prog 46 [.agg (Ed.encE e), .agg (encCl c)] (.tup [.int (named e c).1, .int (named e c).2]) := by
 have h1 := Ed.letter11_spec e hw c.letter
 have h2 := Ed.number11_spec e hw c.number
 by_cases h0 : c.letter.size = 0
 · rw [show named e c = Ed.numR e c.number by unfold named; rw [if_neg (by simpa using h0)]]
   have hl : c.letter = ⟨#[]⟩ := by
    have : c.letter.data = #[] := zBo h0
    cases hcl : c.letter; rw [hcl] at this; simp at this; rw [this]
   have hb : (c.letter.toList == (⟨#[]⟩ : ByteArray).toList) = true := (Lib.bytes_beq_iff _ _).2 hl
   refine PCall.body Tryz.func46 rfl rfl Tryz.ntmps46 rfl rfl ?_
   repeat' (first | refine aoQ rfl rfl rfl (fun hg => by first | exact std0 | exact pcW (h1) rfl rfl nd rfl nds | exact pcW (h2) rfl rfl nd rfl nds | fail) (by exact rfl) ?_ | refine sqW ?_ | refine rgK (fun K' hK => ?_) | (refine aoN (hK _ _ ?_); clear hK K') | refine aoE (bxW rfl rfl rfl rfl rfl tI rfl rfl ?_) | (refine cdW rfl tI (fun hc => ?_) (fun hc => ?_) <;> (first | (simp only [dEt] at hc) | (simp only [dEf, iNl, iNe] at hc) | skip)) | refine skW ?_ | refine rtW ?_)
   all_goals (first | (exfalso; rw [hb] at hc; exact absurd hc (by decide)) | skip)
   exact ⟨.inr rfl, Ent.of rfl⟩
 · rw [show named e c = Ed.letR e c.letter by unfold named; rw [if_pos (by simpa using h0)]]
   have hb : (c.letter.toList == (⟨#[]⟩ : ByteArray).toList) = false := by
    cases hq : (c.letter.toList == (⟨#[]⟩ : ByteArray).toList) with
    | false => rfl
    | true =>
      have hl := (Lib.bytes_beq_iff _ _).1 hq
      rw [hl] at h0
      exact absurd rfl h0
   refine PCall.body Tryz.func46 rfl rfl Tryz.ntmps46 rfl rfl ?_
   repeat' (first | refine aoQ rfl rfl rfl (fun hg => by first | exact std0 | exact pcW (h1) rfl rfl nd rfl nds | exact pcW (h2) rfl rfl nd rfl nds | fail) (by exact rfl) ?_ | refine sqW ?_ | refine rgK (fun K' hK => ?_) | (refine aoN (hK _ _ ?_); clear hK K') | refine aoE (bxW rfl rfl rfl rfl rfl tI rfl rfl ?_) | (refine cdW rfl tI (fun hc => ?_) (fun hc => ?_) <;> (first | (simp only [dEt] at hc) | (simp only [dEf, iNl, iNe] at hc) | skip)) | refine skW ?_ | refine rtW ?_)
   all_goals (first | (exfalso; rw [hb] at hc; exact absurd hc (by decide)) | skip)
   exact ⟨.inr rfl, Ent.of rfl⟩
theorem countP_succ {α : Type} [Inhabited α] {p : α → Bool} {l : List α} {k : Nat} (h : k < l.length) : (l.take (k + 1)).countP p = (l.take k).countP p + if p (l.getD k default) then 1 else 0 := by
 rw [zBi, zA1 h, List.countP_append, getD_lt h]
 congr 1
 simp [List.countP_cons]
theorem once31_spec (e : Ed.Edition) (hb : e.bars.length ≤ 1000000000) (k : Nat) (hk : k < e.bars.length) : PCall Tryz.prog 161 [.agg (Ed.encE e), .int k] (.b (onceP e k)) := by
 obtain ⟨x, hx⟩ : ∃ x, e.bars.getD k default = x := ⟨_, rfl⟩
 have hon : onceP e k = (e.bars.countP (Ed.numP x.number) == 1) := by unfold onceP timesN; rw [zAa, hx]
 rw [hon]
 refine PCall.body Tryz.func161 rfl rfl Tryz.ntmps161 rfl rfl ?_
 repeat' (first | refine aoQ rfl rfl rfl (fun hg => by exact std0) (by exact rfl) ?_ | refine sqW ?_ | refine rgK (fun K' hK => ?_) | (refine aoN (hK _ _ ?_); clear hK K') | refine aoE (bxW rfl rfl rfl rfl rfl tI rfl rfl ?_) | refine blK ?_)
 refine lpD (ι := Nat) (fun j => [(1, .int k), (2, .ptr 0 0), (5, .int ((e.bars.take j).countP (Ed.numP x.number) : Nat)), (6, .int j)]) (fun _ => [.var (Ed.encE e)])
  (fun j => j ≤ e.bars.length) (fun j => e.bars.length - j) 1 (fun _ => rfl) 0 (nZl _) ⟨rfl, rfl, rfl, rfl, tI⟩ rfl (fun _ _ => rfl) (fun _ _ => rfl) ?_
 intro j hj
 by_cases hlt : j < e.bars.length
 · obtain ⟨y, hy⟩ : ∃ y, e.bars.getD j default = y := ⟨_, rfl⟩
   have hs := countP_succ (p := Ed.numP x.number) hlt
   rw [hy] at hs
   have hle : (e.bars.take j).countP (Ed.numP x.number) ≤ 1000000000 := by
    have := List.countP_le_length (p := Ed.numP x.number) (l := e.bars.take j)
    rw [zC4] at this; omega
   generalize (e.bars.take j).countP (Ed.numP x.number) = C at *
   repeat' (first | refine aoQ rfl rfl rfl (fun hg => by first | exact std0 | exact std1) (by exact rfl) ?_ | refine sqW ?_ | refine rgK (fun K' hK => ?_) | (refine aoN (hK _ _ ?_); clear hK K') | (refine cdW rfl tI (fun hc => ?_) (fun hc => ?_) <;> (first | (simp only [dEt] at hc) | (simp only [dEf, iNl, iNe] at hc) | skip)) | refine blK ?_ | refine exW ?_ | refine skW ?_ | refine rtW ?_ | refine dK2 (by decide +kernel) (by kernel_rfl) (by decide +kernel) rfl (fun K' hK => ?_) | (refine aqN (hK _ ?_); clear hK K') | refine aqQ rfl rfl (fun hg => by first | exact PRun.eq (v := .iptr (Ed.encP (e.bars.getD ((k : Nat) : Int).toNat default))) (piW tabOk rfl rfl nd rfl nd rfl rfl (by omega)) (congrArg (fun x => AV.iptr (Ed.encP x)) (show e.bars.getD ((k : Nat) : Int).toNat default = x from hx)) | exact PRun.eq (v := .iptr (Ed.encP (e.bars.getD ((j : Nat) : Int).toNat default))) (piW tabOk rfl rfl nd rfl nd rfl rfl (by omega)) (congrArg (fun x => AV.iptr (Ed.encP x)) (show e.bars.getD ((j : Nat) : Int).toNat default = y from hy)) | exact std0 | fail) (by exact rfl) ?_)
   all_goals (first | (exfalso; omega) | skip)
   · refine ⟨j + 1, hlt, by omega, ⟨rfl, rfl, ?_, rfl, tI⟩, rfl⟩
     rw [hs, if_pos (show Ed.numP x.number y = true from hc)]; rfl
   · refine ⟨j + 1, hlt, by omega, ⟨rfl, rfl, ?_, rfl, tI⟩, rfl⟩
     rw [hs, if_neg (by rw [show Ed.numP x.number y = false from hc]; decide)]; rfl
 · obtain rfl : j = e.bars.length := by omega
   rw [zBl]
   repeat' (first | refine aoQ rfl rfl rfl (fun hg => by first | exact std0 | exact std1) (by exact rfl) ?_ | refine sqW ?_ | refine rgK (fun K' hK => ?_) | (refine aoN (hK _ _ ?_); clear hK K') | (refine cdW rfl tI (fun hc => ?_) (fun hc => ?_) <;> (first | (simp only [dEt] at hc) | (simp only [dEf, iNl, iNe] at hc) | skip)) | refine blK ?_ | refine exW ?_ | refine skW ?_ | refine rtW ?_ | refine dK2 (by decide +kernel) (by kernel_rfl) (by decide +kernel) rfl (fun K' hK => ?_) | (refine aqN (hK _ ?_); clear hK K') | refine aqQ rfl rfl (fun hg => by first | exact std0 | exact std1) (by exact rfl) ?_)
   all_goals (first | (exfalso; omega) | skip)
   refine ⟨.inr rfl, Ent.b ?_⟩
   rw [zAl]
   simp
   try omega
theorem ticks_dur (r : Rat) : decide (ticksX r ≥ 0) = durOk r := by
 unfold ticksX
 cases h : durOk r with
 | false => rw [if_neg (by decide)]; rfl
 | true =>
   rw [if_pos rfl]
   obtain ⟨h1, h2, h3⟩ := durOk_iff.1 h
   have hd := (ratOk_iff.1 h1).1
   refine decide_eq_true ?_
   unfold ticksV
   exact Int.mul_nonneg h2 (Int.tdiv_nonneg (by decide) (by omega))
theorem dur6_spec (r : Rat) : PCall Tryz.prog 111 [.agg (encR r)] (.b (durOk r)) := by
 have h := ticks6_spec r
 rw [← ticks_dur]
 generalize ticksX r = t at *
 refine PCall.body Tryz.func111 rfl rfl Tryz.ntmps111 rfl rfl ?_
 repeat' (first | refine aoQ rfl rfl rfl (fun hg => by first | exact std0 | exact pcW (h) rfl rfl nd rfl nds | fail) (by exact rfl) ?_ | refine sqW ?_ | refine rgK (fun K' hK => ?_) | (refine aoN (hK _ _ ?_); clear hK K') | refine aoE (bxW rfl rfl rfl rfl rfl tI rfl rfl ?_) | refine rtW ?_)
 exact ⟨.inr rfl, Ent.b rfl⟩
theorem moment31_spec (m : Mom) : PCall Tryz.prog 57 [.agg (encMo m)] (.b (momOk m)) := by
 have h := dur6_spec m.pos
 refine PCall.body Tryz.func57 rfl rfl Tryz.ntmps57 rfl rfl ?_
 repeat' (first | refine aoQ rfl rfl rfl (fun hg => by first | exact std0 | exact pcW (h) rfl rfl nd rfl nds | fail) (by exact rfl) ?_ | refine sqW ?_ | refine rgK (fun K' hK => ?_) | (refine aoN (hK _ _ ?_); clear hK K') | refine aoE (bxW rfl rfl rfl rfl rfl tI rfl rfl ?_) | refine rtW ?_)
 refine ⟨.inr rfl, Ent.b ?_⟩
 unfold momOk inB
 generalize durOk m.pos = a
 simp only [ge_iff_le]
 generalize decide (1 ≤ m.bar) = b
 generalize decide (m.bar ≤ 1000000) = c
 generalize decide (1 ≤ m.pass) = d
 generalize decide (m.pass ≤ 20000) = g
 revert a b c d g; decide
end Go.Proofs.YtdglbdfdkabjfaaGreatDoor.Pl
