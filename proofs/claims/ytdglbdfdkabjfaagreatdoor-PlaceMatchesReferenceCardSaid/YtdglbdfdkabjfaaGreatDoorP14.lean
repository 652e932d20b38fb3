/- Growing arrays whose elements change: a nil slice, append, a store into a part of an element.  A slice of an array that does not change; variables that are told with less.  Rules: an array that grows and changes, objects numbered ahead, drawn regions with effects; slices that are told without their array.  Rules that Align needs: entries of maps, variables that are made again and again, what is told in weaker words. No statement is proved here. -/
import Derived.Test.YtdglbdfdkabjfaaGreatDoorP4
import Derived.Test.YtdglbdfdkabjfaaGreatDoorP6
import Derived.Test.YtdglbdfdkabjfaaGreatDoorP9
import Derived.Test.YtdglbdfdkabjfaaGreatDoorP12
import Derived.Test.YtdglbdfdkabjfaaGreatDoorP13
set_option linter.unusedVariables false
set_option linter.unusedSimpArgs false
namespace Go.Ab
section
variable {P : Program} {n : Nat} {ops : Array Oper} {o : Oper} {env : Env} {σ : Store} {T : Tab} {k : Env → Store → Prop}
theorem EStep.appendArr (hT : T.Ok P) {s x : Operand} {t tx e : TypeId} {d l sz ver : Nat} {es es2 : List (List AV)} {u S : AV} {s1 b1 : Nat} {z : List Z} {le : LI} (ho : o.op = .call { callee := .builtin .append, args := #[s, x], argTypes := #[t, tx] })
 (hg : o.guard = none) (hd : o.dst = some d) (hdn : d < n) (hs : Rd env s S) (hS0 : S = .sla l sz 0 es.length ver ∧ es ≠ [] ∨ S = .sl sz [] (.own l) ∧ es = [] ∧ ver = 0) (hσ : σ[l]? = some (.arr sz ver es)) (hx : Rd env x u) (hsrc : AppSrc T tx sz u es2) (hpos : 0 < es2.length)
 (hl : LOk P t ⟨.slice e, s1, b1, z⟩) (he : LOk P e le) (hsz : le.size = sz) (hz0 : le.zero.length = le.size) (hbound : (es.length + es2.length) * le.bytes ≤ 140737488355328) (hb2 : es.length + es2.length ≤ 9223372036854775807)
 (hk : k (env.put d (.sla l sz 0 (es.length + es2.length) (ver + 1))) (σ.set l (.arr sz (ver + 1) (es ++ es2)))) : EStep P n ops o k env σ := by
 refine EStep.plain hg fun G a w hr => ?_
 have h1 := hr.rd hs
 obtain ⟨news, hS, hN⟩ := hsrc.src hT hr.st.memok (hr.rd hx)
 generalize hA : a.eval s = sv at h1
 obtain ⟨i, hi1, hi2, hi3, hi4⟩ := he.info
 have hund := hl.undSlice
 have hS' : Src P i.size tx (a.eval x) es2.length news w := by rw [hi2, hsz]; exact hS
 have hNs : news.length = es2.length * sz := by have := hN.1; simpa using this
 obtain ⟨ob, cap, hB, hne, hob⟩ := arr_at hr.st hσ
 have hobj := hr.st.objs l _ _ hB hσ
 have hsv : sv = .slice (ob.map fun b => ⟨b, 0, none⟩) es.length cap := by
  rcases hS0 with ⟨rfl, hn⟩ | ⟨rfl, rfl, rfl⟩
  · cases h1 with
    | sla _ _ _ _ _ a c hr =>
      obtain ⟨ob', cap', n', g1, g2, g3⟩ := hr
      rw [hB] at g1; simp at g1
      obtain ⟨rfl, rfl, rfl⟩ := g1
      obtain ⟨g4, g5⟩ := g3 rfl
      rcases g5 with g5 | ⟨rfl, rfl⟩
      · exact absurd (zAs g5) hn
      · simp
  · cases h1 with
    | sl _ _ _ b off cap' f hz hm hr' hc ht =>
      obtain ⟨ob', cp, n', g1, g2, g3⟩ := ht
      rw [hB] at g1; simp at g1
      obtain ⟨rfl, rfl, rfl⟩ := g1
      obtain ⟨g4, g5⟩ := g3 rfl
      cases ob with
      | none => simp at g4
      | some b' =>
        simp at g4
        obtain ⟨rfl, rfl⟩ := g4
        subst g5; rfl
    | slz _ _ ht =>
      obtain ⟨ob', cp, n', g1, g2, g3⟩ := ht
      rw [hB] at g1; simp at g1
      obtain ⟨rfl, rfl, rfl⟩ := g1
      obtain ⟨g4, g5⟩ := g3 rfl
      cases ob with
      | none => subst g5; rfl
      | some b' => simp at g4
 subst hsv
 have hgle : ∀ b' c', (GB.own ob cap ver).Le (.own b' c' (ver + 1)) := fun b' c' => .inr ⟨_, _, _, rfl, Nat.lt_succ_self _⟩
 have hlB : l < G.B.length := by
  rcases zA5 l G.B.length with h' | h'
  · exact h'
  · simp [zA4 h'] at hB
 have hzc : le.zeroVal.cells.size = sz := by
  unfold LI.zeroVal
  cases ha : le.lt.isAgg with
  | true => simp [Value.cells, hz0, hsz]
  | false =>
    obtain ⟨z', hz'⟩ := he.one ha
    rw [hz'] at hz0 ⊢
    simp at hz0
    rw [← hsz, ← hz0]
    cases z' <;> rfl
 -- the end: the new place
 have fin : ∀ (b c' : Nat) (w' : World), SRel { G with B := G.B.set l (.own (some b) c' (ver + 1)) } (σ.set l (.arr sz (ver + 1) (es ++ es2))) w' → es.length + es2.length ≤ c' →
  ∃ env' σ' G', k env' σ' ∧ G.Le G' ∧ ARel n G' env' σ' (a.put o.dst (.slice (some ⟨b, 0, none⟩) (es.length + es2.length) c')) w' := fun b c' w' hs2 hle => by
  have hG : G.Le { G with B := G.B.set l (.own (some b) c' (ver + 1)) } := .upB (BLe.set hB (hgle _ _))
  refine ⟨_, _, _, hk, hG, ?_⟩
  rw [hd]
  have hr' : ARel n { G with B := G.B.set l (.own (some b) c' (ver + 1)) } env (σ.set l (.arr sz (ver + 1) (es ++ es2))) a w' := hr.later hG hs2
  exact hr'.put hdn (.sla _ sz 0 _ (ver + 1) _ _ ⟨some b, c', ver + 1, by rw [zAd hlB], zAh _, fun _ => ⟨by omega, .inr ⟨by omega, by simp⟩⟩⟩)
 have hzall : ∀ b, ob = some b → ∀ x ∈ es ++ es2, x.length = sz := fun b hb x hx => by
  obtain ⟨c, T', fr, _, _, _, _, hz, _, _⟩ := hob b hb
  exact (zC1.1 hx).elim (hz x) (hN.2.1 x)
 by_cases hroom : es.length + es2.length ≤ cap
 · cases ob with
   | none =>
     exfalso
     cases hobj with
     | arrz => simp only [zAn] at hroom; omega
   | some b =>
     obtain ⟨c, T', fr, hb, hf, hlc, hn, hz, hrel, hm⟩ := hob b rfl
     have hcs : (es.length + es2.length) * sz ≤ c.size := by rw [hlc]; exact zAp _ hroom
     rw [zAx] at hcs
     obtain ⟨w', c', r1, r2, r3, r4, r5, r6, rout⟩ := run_storeCells (P := P) (b := b) (off := es.length * sz) (T := T') (fr := fr) news 0 c w hb hf hS.one (by omega)
     have hrun := run_append_room' (P := P) w w' t tx o.type e i hund hi1 b 0 es.length cap (a.eval x) es2.length news hS' hroom (by rw [hi2, hsz, zBn]; exact r1)
     have hrun2 : (execOp a.eval o).run P w = .ok (.value (.slice (some ⟨b, 0, none⟩) (es.length + es2.length) cap)) w' := by simp [execOp, ho, resolve, invoke, builtin, hA, hrun]
     unfold OWP
     rw [hrun2]
     simp only [zBj] at r6
     have hmapb : G.M.map b = none := mem_of_notmap hr.st.memok hb (by intros; simp)
     have hok : MemOk G.M w' := by
      refine ⟨fun b2 o v hv => ?_, fun b2 es' hb2' => ?_, hr.st.memok.g⟩
      · have hne2 : b2 ≠ b := fun e2 => by subst e2; rw [hm o] at hv; cases hv
        have h2 := hr.st.memok.1 _ _ _ hv
        simp only [World.cell?] at h2 ⊢
        rw [r3 _ hne2]; exact h2
      · have hne2 : b2 ≠ b := fun e2 => by subst e2; rw [hmapb] at hb2'; cases hb2'
        obtain ⟨cl, h2⟩ := hr.st.memok.2 _ _ hb2'
        exact ⟨cl, by rw [r3 _ hne2]; exact h2⟩
     have hblt := (hr.st.fresh l _ b hB rfl).2
     refine fin b cap w' ?_ hroom
     refine hr.st.regrow (M' := G.M) hB (Mem.Le.refl _) (hgle _ _) rfl (by omega) (fun k hk _ => r3 k hk) rfl (fun _ _ _ => rfl) hok (.inl rfl) (by omega) rout ?_
     refine .arr b cap sz (ver + 1) (es ++ es2) c' T' fr r4 (by rw [r5]; exact hf) (by rw [r5, hlc]) (by simpa using hroom) (hzall b rfl) (fun i j x v hi hj => ?_) hm
     have hxl : x.length = sz := hzall b rfl x (zAc hi)
     have hjs : j < sz := by
      have := (zAb.1 hj).1
      omega
     rw [r6]
     rcases zA5 i es.length with h | h
     · rw [zA7 h] at hi
       rw [if_neg (by have := mul_lt h hjs; omega)]
       exact (hrel i j x v hi hj).mono (Mem.Le.refl _) (BLe.set hB (hgle _ _))
     · rw [zA8 h] at hi
       have hi2' : i - es.length < es2.length := (zAb.1 hi).1
       have e1 : i * sz + j = es.length * sz + ((i - es.length) * sz + j) := by
        rw [← zBy, ← zAx]; congr 2; omega
       have hlt := mul_lt hi2' hjs
       rw [e1, if_pos ⟨by omega, by rw [hNs]; omega⟩, zC8]
       have := hN.2.2 _ j x v hi hj
       have e2 : news.toArray.getD ((i - es.length) * sz + j) undef = news.getD ((i - es.length) * sz + j) undef := by simp [List.getD]
       rw [e2] at this
       exact this.mono (Mem.Le.refl _) (BLe.nil _)
 · -- a new row
   have holds : ∃ olds : List Value, olds.length = es.length * sz ∧ (Builtin.firstCells i.size es.length (.slice (ob.map fun b => ⟨b, 0, none⟩) es.length cap)).run P w.drew = .ok olds.toArray w.drew ∧
    (∀ x ∈ es, x.length = sz) ∧ ∀ (i j : Nat) (x : List AV) (v : AV), es[i]? = some x → x[j]? = some v → VRel G.M G.B v (olds.getD (i * sz + j) undef) := by
    cases ob with
    | none =>
      have : es = [] := by
       rcases es with _ | ⟨x, es⟩
       · rfl
       · obtain ⟨b, hb⟩ := hne (by simp); cases hb
      subst this
      exact ⟨[], by simp, rfl, by simp, fun i j x v h => by simp at h⟩
    | some b =>
      obtain ⟨c, T', fr, hb, hf, hlc, hn, hz, hrel, hm⟩ := hob b rfl
      have hcs : es.length * sz ≤ c.size := by rw [hlc]; exact zAp _ hn
      refine ⟨(List.range (es.length * sz)).map fun k => c.getD k undef, by simp, ?_, hz, fun i j x v hi hj => ?_⟩
      · have := run_loadCells_list (P := P) w.drew ⟨b, 0, none⟩ ((List.range (es.length * sz)).map fun k => c.getD k undef) (fun j v hj => by
         simp only [zA9, zA3] at hj
         obtain ⟨k, hk, rfl⟩ := hj
         have hj2 := (zAb.1 hk).1
         simp at hj2
         have hk2 : k = j := by have := (zAb.1 hk).2; simpa using this.symm
         subst hk2
         have h3 : k < c.size := by omega
         show (World.cell? w.drew _) = _
         have hb' : w.drew.heap[b]? = some (.cells c T' fr) := hb
         simp [World.cell?, addr_add, hb', h3])
        simp only [zBz, List.length_range] at this
        simp only [Option.map, Builtin.firstCells, hi2, hsz]
        exact this
      · have := hrel i j x v hi hj
        have hxl := hz x (zAc hi)
        have hjs : j < sz := by
         have := (zAb.1 hj).1
         omega
        have hlt := mul_lt (zAb.1 hi).1 hjs
        have e2 : ((List.range (es.length * sz)).map fun k => c.getD k undef).getD (i * sz + j) undef = c.getD (i * sz + j) undef := by
         simp [List.getD, hlt]
        rw [e2]; exact this
   obtain ⟨olds, hOs, hold, hz, hrel⟩ := holds
   have hlt : cap < es.length + es2.length := by omega
   have hrun := run_append_grow_src (P := P) w t tx o.type e i le.zeroVal hund hi1 (by rw [hi4]; rfl) (ob.map fun b => ⟨b, 0, none⟩) es.length cap olds hold (a.eval x) es2.length news hS' hlt (by omega) (growslice_fits hlt (by rw [hi3]; exact hbound))
   have hcapge : es.length + es2.length ≤ grownCap w (es.length + es2.length) cap e := by unfold grownCap Question.cut; exact Nat.le_add_right _ _
   generalize hrow : ((olds ++ news).toArray ++ Builtin.zeroCells le.zeroVal.cells (grownCap w (es.length + es2.length) cap e - (es.length + es2.length))) = row at hrun
   have hrowsz : row.size = grownCap w (es.length + es2.length) cap e * sz := by
    rw [← hrow]
    simp only [zD4, zCo, zC0, size_zeroCells, hzc, hOs, hNs, ← zAx]
    congr 1; omega
   have hrun2 : (execOp a.eval o).run P w = .ok (.value (.slice (some ⟨w.heap.size, 0, none⟩) (es.length + es2.length) (grownCap w (es.length + es2.length) cap e))) (w.drew.alloc (.cells row e)) := by
    simp [execOp, ho, resolve, invoke, builtin, hA, hrun]
   unfold OWP
   rw [hrun2]
   have row1 : ∀ o, o < es.length * sz → row.getD o undef = olds.getD o undef := by
    intro o ho
    rw [← hrow]
    simp only [zA2, zD9]
    rw [zAg (by simp; omega)]
    simp only [zBu]
    rw [zA7 (by omega)]; simp [List.getD]
   have row2 : ∀ o, o < es2.length * sz → row.getD (es.length * sz + o) undef = news.toArray.getD o undef := by
    intro o ho
    rw [← hrow]
    simp only [zA2, zD9]
    rw [zAg (by simp; omega)]
    simp only [zBu]
    rw [zA8 (by omega), hOs, zC8]
   have hm0 := mem_lt hr.st.memok _ (zAh w.heap.size)
   have hheap : (w.drew.alloc (.cells row e)).heap[w.heap.size]? = some (.cells row e) := by rw [heap_alloc]; simp
   have hok : MemOk G.M (w.drew.alloc (.cells row e)) := by
    refine ⟨fun b o v hv => ?_, fun b es' hb => ?_, hr.st.memok.g⟩
    · have h2 := hr.st.memok.1 _ _ _ hv
      have hlt2 := World.block_lt_of_cell? _ _ h2
      have : (w.drew.alloc (.cells row e)).cell? ⟨b, o, none⟩ = w.drew.cell? ⟨b, o, none⟩ := World.cell?_alloc_lt _ _ _ hlt2
      rw [this]; exact h2
    · obtain ⟨cl, h2⟩ := hr.st.memok.2 _ _ hb
      refine ⟨cl, ?_⟩
      rw [heap_alloc]
      split
      · rename_i eb; subst eb; simp at h2
      · exact h2
   refine fin w.heap.size _ _ ?_ hcapge
   refine hr.st.regrow (M' := G.M) hB (Mem.Le.refl _) (hgle _ _) rfl (by simp) (fun k hk hk2 => by rw [heap_alloc]; simp [Nat.ne_of_lt hk2]; rfl) rfl (fun _ _ _ => rfl) hok (.inr (zAh _)) (by simp) OutR.r ?_
   refine .arr w.heap.size _ sz (ver + 1) (es ++ es2) row e (0, 0) hheap (by intro o _; simp) hrowsz (by simpa using hcapge) (fun x hx => (zC1.1 hx).elim (hz x) (hN.2.1 x)) (fun i j x v hi hj => ?_) hm0.1
   have hxl : x.length = sz := (zC1.1 (zAc hi)).elim (hz x) (hN.2.1 x)
   have hjs : j < sz := by
    have := (zAb.1 hj).1
    omega
   rcases zA5 i es.length with h | h
   · rw [zA7 h] at hi
     rw [row1 _ (mul_lt h hjs)]
     exact (hrel i j x v hi hj).mono (Mem.Le.refl _) (BLe.set hB (hgle _ _))
   · rw [zA8 h] at hi
     have hi2' : i - es.length < es2.length := (zAb.1 hi).1
     have e1 : i * sz + j = es.length * sz + ((i - es.length) * sz + j) := by
      rw [← zBy, ← zAx]; congr 2; omega
     rw [e1, row2 _ (mul_lt hi2' hjs)]
     exact (hN.2.2 _ j x v hi hj).mono (Mem.Le.refl _) (BLe.nil _)
theorem EStep.storeEO (hT : T.Ok P) {t : TypeId} {x y : Operand} {l sz i off ver : Nat} {es : List (List AV)} {u u1 : AV} {li : LI} (ho : o.op = .store t x y) (hg : o.guard = none) (hx : rdv env x = some (.eptr l sz i off ver)) (nx : rdn env x)
 (hσ : σ[l]? = some (.arr sz ver es)) (hi : i < es.length) (hy : rdv env y = some u) (ny : rdn env y) (hc : cellsAV u = some [u1]) (hone : oneAV u1 = true) (hl : T.get t = some li) (hsz : li.size = 1) (hoff : off < sz) (hdn : dstOk n o = true)
 (hk : k (env.putO o.dst .any) (σ.set l (.arr sz ver (es.set i ((es.getD i []).set off u1))))) : EStep P n ops o k env σ := by
 refine EStep.plain hg fun G a w hr => ?_
 have h1 := hr.rd (Rd.w hx nx)
 generalize hA : a.eval x = X at h1
 obtain ⟨ob, cap, hB, hne, hob⟩ := arr_at hr.st hσ
 cases h1 with
 | eptr _ _ _ _ _ b q hrr =>
   obtain ⟨ob', cap', n', g1, g2, g3⟩ := hrr
   rw [hB] at g1; simp at g1
   obtain ⟨rfl, rfl, rfl⟩ := g1
   obtain ⟨g4, g5, rfl, rfl⟩ := g3 rfl
   obtain ⟨c, T', fr, hbb, hf, hlen, hn, hz, hrel, hm⟩ := hob b rfl
   have hlk := LOk.of (hT.get hl)
   have h2 := hr.rd (Rd.w hy ny)
   obtain ⟨h3, h4⟩ := cellsAV_rel hc h2
   simp at h3
   have hcap : i < cap := by omega
   have hfit : i * sz + off + 1 ≤ c.size := by
    rw [hlen]
    have := mul_lt hcap hoff
    omega
   obtain ⟨w', c', r1, r2, r3, r4, r5, r6, rout⟩ := run_storeCells (P := P) (b := b) (off := i * sz + off) (T := T') (fr := fr) (a.eval y).cells.toList 0 c w hbb hf (fun v hv => by
    obtain ⟨i, hi, rfl⟩ := zB0.1 hv
    have hi' : i = 0 := by simp [h3] at hi; omega
    subst hi'
    have := h4 0 u1 rfl
    have h6 := oneAV_rel hone this
    have hi2 : 0 < (a.eval y).cells.size := by omega
    simpa [hi2] using h6) (by simp only [zBg, h3]; omega)
   have hrun : (execOp a.eval o).run P w = .ok .skip w' := by
    simp only [execOp, ho, hA, Instr.storeAt, Instr.sureAddr, storeVar]
    simp [hlk.run_size w, h3, hsz, r1]
   unfold OWP
   rw [hrun]
   have hmm : G.M.map b = none := mem_of_notmap hr.st.memok hbb (by simp)
   have hei : es[i]? = some (es.getD i []) := by simp [List.getD, hi]
   have hs : SRel G (σ.set l (.arr sz ver (es.set i ((es.getD i []).set off u1)))) w' := by
    refine hr.st.upd hB rfl r2 r3 (.arr b cap sz ver _ c' T' fr r4 (by rw [r5]; exact hf) (by rw [r5]; exact hlen) (by simpa using hn) (fun e he => ?_) (fun i' j e av he hj => ?_) hm) ⟨hm, hmm⟩ rout
    · rcases zCi he with h | h
      · exact hz e h
      · rw [h, List.length_set]; exact hz _ (zAc hei)
    · have hjs : j < sz := by
       have hle : e.length = sz := by
        rcases zCi (zAc he) with h | h
        · exact hz e h
        · rw [h, List.length_set]; exact hz _ (zAc hei)
       have := (zAb.1 hj).1
       omega
      rw [r6 (i' * sz + j)]
      simp only [zBj, zBg, h3]
      by_cases hii : i = i'
      · subst hii
        rw [zAd hi] at he
        simp at he; subst he
        by_cases hjo : off = j
        · subst hjo
          rw [zAd (by have := hz _ (zAc hei); simp only [zC5] at this; omega)] at hj
          simp at hj; subst hj
          rw [if_pos ⟨by omega, by omega⟩]
          have := h4 0 _ rfl
          simpa using this
        · rw [zAj hjo] at hj
          rw [if_neg (by omega)]
          exact hrel i j _ av hei hj
      · rw [zAj hii] at he
        have hno : ¬ (i * sz + off ≤ i' * sz + j ∧ i' * sz + j < i * sz + off + 1) := by
         rintro ⟨q1, q2⟩
         rcases zA5 i i' with h | h
         · have := zAp sz (show i + 1 ≤ i' from h)
           rw [zAx, zCz] at this; omega
         · have := zAp sz (show i' + 1 ≤ i by omega)
           rw [zAx, zCz] at this; omega
        rw [if_neg hno]
        exact hrel i' j e av he hj
   have hr' : ARel n G env (σ.set l (.arr sz ver (es.set i ((es.getD i []).set off u1)))) a w' := ⟨hr.size, hr.defers, hr.vals, hs⟩
   exact ⟨_, _, G, hk, Gh.Le.refl G, hr'.putO (dstOk_spec hdn) (.any _)⟩
theorem PRun.sliceLoS (hT : T.Ok P) {t : TypeId} {x y : Operand} {l sz off len ver : Nat} {es : List (List AV)} {kd : IntKind} {i : Int} (ho : o.op = .slice t x (some y) none none) (hx : rdv env x = some (.sla l sz off len ver)) (nx : rdn env x)
 (hy : rdv env y = some (.prim (.int kd i))) (ny : rdn env y) (hl : elemSz T t = some sz) (hσ : σ[l]? = some (.arr sz ver es)) (h : 0 ≤ i ∧ i ≤ len) : PRun P o env σ (.sla l sz (off + i.toNat) (len - i.toNat) ver) :=
 .of fun G A w hs hv => by
  have hX := rd (Rd.w hx nx) (by simp [ho, Op.operands]) hv
  have e' := VRel.prim_eq (rd (Rd.w hy ny) (by simp [ho, Op.operands]) hv)
  obtain ⟨e, s1, b1, z, li, h1, h2, h3⟩ := elemSz_spec hT hl
  obtain ⟨j, rfl⟩ := zAy h.1
  have hj : j ≤ len := by omega
  obtain ⟨ob, cap, hB, hne, hob⟩ := arr_at hs hσ
  generalize hA : A.eval x = v at hX
  cases hX with
  | sla _ _ _ _ _ a c hq =>
    obtain ⟨ob', cap', n', g1, g2, g3⟩ := hq
    rw [hB] at g1; simp at g1
    obtain ⟨rfl, rfl, rfl⟩ := g1
    obtain ⟨g4, g5⟩ := g3 rfl
    have hrb := run_bound (P := P) (k := kd) (i := (j : Int)) (y := len) (code := .sliceB) w ⟨by omega, by omega⟩
    rcases zAz len with hz | hz
    · subst hz
      have hj0 : j = 0 := by omega
      subst hj0
      refine ⟨.slice a 0 c, ?_, .sla _ sz _ _ ver a c ⟨ob, cap, ver, hB, zAh _, fun _ => ⟨by simpa using g4, .inl (by simp)⟩⟩⟩
      have hrb0 := run_bound (P := P) (k := kd) (i := (0 : Int)) (y := 0) (code := .sliceB) w ⟨by omega, by omega⟩
      simp only [execOp, ho, hA, Instr.sliceAt, Instr.slice, Option.map_none, zBc]
      cases a <;> simp [h1.slice w, h2.run_size w, Instr.sliceBounds, e', hrb0, Addr.add]
    · rcases g5 with g5 | ⟨rfl, rfl⟩
      · omega
      cases ob with
      | none =>
        exfalso
        have ho := hs.objs l _ _ hB hσ
        cases ho
        omega
      | some b =>
        refine ⟨.slice (if cap - off = j then some ⟨b, off * sz, none⟩ else some ⟨b, off * sz + j * sz, none⟩) (len - j) (cap - off - j), ?_, ?_⟩
        · simp only [execOp, ho, hA, Instr.sliceAt, Instr.slice, Option.map_none, zBc]
          simp [h1.slice w, h2.run_size w, h3, Instr.sliceBounds, e', hrb, addr_add]
        · simp only [zAa]
          refine .sla _ sz _ _ ver _ _ ⟨some b, cap, ver, hB, zAh _, fun _ => ⟨by omega, ?_⟩⟩
          by_cases hcj : cap - off = j
          · exact .inl (by omega)
          · refine .inr ⟨by omega, ?_⟩
            rw [if_neg hcj]; simp [zAx]
theorem PRun.sliceHiS (hT : T.Ok P) {t : TypeId} {x y : Operand} {l sz off len ver : Nat} {es : List (List AV)} {kd : IntKind} {i : Int} (ho : o.op = .slice t x none (some y) none) (hx : rdv env x = some (.sla l sz off len ver)) (nx : rdn env x)
 (hy : rdv env y = some (.prim (.int kd i))) (ny : rdn env y) (hl : elemSz T t = some sz) (hσ : σ[l]? = some (.arr sz ver es)) (h : 0 ≤ i ∧ i ≤ len) : PRun P o env σ (.sla l sz off i.toNat ver) :=
 .of fun G A w hs hv => by
  have hX := rd (Rd.w hx nx) (by simp [ho, Op.operands]) hv
  have e' := VRel.prim_eq (rd (Rd.w hy ny) (by simp [ho, Op.operands]) hv)
  obtain ⟨e, s1, b1, z, li, h1, h2, h3⟩ := elemSz_spec hT hl
  obtain ⟨j, rfl⟩ := zAy h.1
  have hj : j ≤ len := by omega
  obtain ⟨ob, cap, hB, hne, hob⟩ := arr_at hs hσ
  generalize hA : A.eval x = v at hX
  cases hX with
  | sla _ _ _ _ _ a c hq =>
    obtain ⟨ob', cap', n', g1, g2, g3⟩ := hq
    rw [hB] at g1; simp at g1
    obtain ⟨rfl, rfl, rfl⟩ := g1
    obtain ⟨g4, g5⟩ := g3 rfl
    have hjc : j ≤ c := by
     rcases g5 with g5 | ⟨rfl, _⟩ <;> omega
    have hrb := run_bound (P := P) (k := kd) (i := (j : Int)) (y := c) (code := .sliceAcap) w ⟨by omega, by omega⟩
    rcases zAz len with hz | hz
    · subst hz
      have hj0 : j = 0 := by omega
      subst hj0
      refine ⟨.slice a 0 c, ?_, .sla _ sz _ _ ver a c ⟨ob, cap, ver, hB, zAh _, fun _ => ⟨by simpa using g4, .inl (by simp)⟩⟩⟩
      have hrb0 := run_bound (P := P) (k := kd) (i := (0 : Int)) (y := c) (code := .sliceAcap) w ⟨by omega, by omega⟩
      simp only [execOp, ho, hA, Instr.sliceAt, Instr.slice, Option.map_none, zBc]
      cases a <;> simp [h1.slice w, h2.run_size w, Instr.sliceBounds, e', hrb0, Addr.add]
    · rcases g5 with g5 | ⟨rfl, rfl⟩
      · omega
      cases ob with
      | none =>
        exfalso
        have ho := hs.objs l _ _ hB hσ
        cases ho
        omega
      | some b =>
        refine ⟨.slice (some ⟨b, off * sz, none⟩) j (cap - off), ?_, .sla _ sz _ _ ver _ _ ⟨some b, cap, ver, hB, zAh _, fun _ => ⟨by simp; omega, .inr ⟨rfl, rfl⟩⟩⟩⟩
        simp only [execOp, ho, hA, Instr.sliceAt, Instr.slice, Option.map_none, zBc]
        simp [h1.slice w, h2.run_size w, h3, Instr.sliceBounds, e', hrb, addr_add]
theorem zeroCells_one {z : Array Value} (h : z.toList.all (·.oneCell') = true) (n : Nat) : ∀ v ∈ (Builtin.zeroCells z n).toList, v.oneCell' = true := by
 intro v hv
 simp only [Builtin.zeroCells, Array.toList_map, zB4] at hv
 obtain ⟨i, hi, rfl⟩ := hv
 have hpos : 0 < z.size := by
  rcases zAz z.size with h0 | h0
  · rw [h0] at hi; simp at hi
  · exact h0
 have hlt : i % z.size < z.size := zCv _ hpos
 rw [getElem!_pos z _ hlt]
 exact zA6.1 h _ (by rw [← Array.getElem_toList (h := hlt)]; exact zBs _)
theorem EStep.clearA (hT : T.Ok P) {t e : TypeId} {x : Operand} {l sz off len ver : Nat} {es : List (List AV)} {s1 b1 : Nat} {z : List Z} {le : LI} (ho : o.op = .call { callee := .builtin .clear, args := #[x], argTypes := #[t] }) (hg : o.guard = none)
 (hx : rdv env x = some (.sla l sz off len ver)) (nx : rdn env x) (hσ : σ[l]? = some (.arr sz ver es)) (hl : LOk P t ⟨.slice e, s1, b1, z⟩) (he : LOk P e le) (hz0 : le.zeroVal.cells.size = sz) (hz1 : le.zeroVal.cells.toList.all (·.oneCell') = true) (hdn : dstOk n o = true)
 (hk : k (env.putO o.dst .any) (σ.set l (.arr sz ver (es.take off)))) : EStep P n ops o k env σ := by
 refine EStep.plain hg fun G a w hr => ?_
 have h1 := hr.rd (Rd.w hx nx)
 generalize hA : a.eval x = X at h1
 obtain ⟨ob, cap, hB, hne, hob⟩ := arr_at hr.st hσ
 have hund := hl.undSlice
 cases h1 with
 | sla _ _ _ _ _ ad c hq =>
   obtain ⟨ob', cap', n', g1, g2, g3⟩ := hq
   rw [hB] at g1; simp at g1
   obtain ⟨rfl, rfl, rfl⟩ := g1
   obtain ⟨g4, g5⟩ := g3 rfl
   have same : (execOp a.eval o).run P w = .ok (.value (.tuple #[])) w → OWP P o a w (fun a' w' => ∃ env' σ' G', k env' σ' ∧ G.Le G' ∧ ARel n G' env' σ' a' w') := fun hrun => by
    unfold OWP
    rw [hrun]
    have hs := hr.st.retell (o' := .arr sz ver (es.take off)) hσ (fun g hg ho => by
     cases ho with
     | arrz => simpa using ORel.arrz (M := G.M) (B := G.B) (w := w) sz ver
     | arr b cap _ _ _ c T fr hb hf hl hn hz hr hm =>
       refine .arr b cap sz ver _ c T fr hb hf hl (by simp; omega) (fun e he => hz e (List.mem_of_mem_take he)) (fun i j e a hi hj => ?_) hm
       rw [zAw] at hi
       split at hi
       · exact hr i j e a hi hj
       · cases hi)
    exact ⟨_, _, G, hk, Gh.Le.refl G, (⟨hr.size, hr.defers, hr.vals, hs⟩ : ARel n G env _ a w).putO (dstOk_spec hdn) (.any _)⟩
   rcases zAz len with hz | hz
   · subst hz
     refine same ?_
     cases ad <;> simp [execOp, ho, resolve, invoke, builtin, hA, Builtin.clear_, run_underlying hund]
   · rcases g5 with g5 | ⟨rfl, rfl⟩
     · omega
     cases ob with
     | none =>
       exfalso
       have ho := hr.st.objs l _ _ hB hσ
       cases ho
       omega
     | some b =>
       obtain ⟨cs, T', fr, hbb, hf, hlen, hn, hz', hrel, hm⟩ := hob b rfl
       have hvs : (Builtin.zeroCells le.zeroVal.cells len).toList.length = len * sz := by simp [size_zeroCells, hz0]
       have hfit : off * sz + 0 + (Builtin.zeroCells le.zeroVal.cells len).toList.length ≤ cs.size := by
        rw [hvs, hlen, zBj, ← zAx]; exact zAp _ g4
       obtain ⟨w', c', r1, r2, r3, r4, r5, r6, rout⟩ := run_storeCells (P := P) (b := b) (off := off * sz) (T := T') (fr := fr) (Builtin.zeroCells le.zeroVal.cells len).toList 0 cs w hbb hf (zeroCells_one hz1 len) hfit
       obtain ⟨lm, rfl⟩ : ∃ m, len = m + 1 := ⟨len - 1, by omega⟩
       have hrun : (execOp a.eval o).run P w = .ok (.value (.tuple #[])) w' := by
        simp [execOp, ho, resolve, invoke, builtin, hA, Builtin.clear_, run_underlying hund, he.run_zero, r1]
       unfold OWP
       rw [hrun]
       have hmm : G.M.map b = none := mem_of_notmap hr.st.memok hbb (by simp)
       have hs : SRel G (σ.set l (.arr sz ver (es.take off))) w' := by
        refine hr.st.upd hB rfl r2 r3 (.arr b cap sz ver _ c' T' fr r4 (by rw [r5]; exact hf) (by rw [r5]; exact hlen) (by simp; omega) (fun e he => hz' e (List.mem_of_mem_take he)) (fun i' j e av he hj => ?_) hm) ⟨hm, hmm⟩ rout
        rw [zAw] at he
        split at he
        · rename_i hio
          have hel := hz' e (zAc he)
          have hjs : j < sz := by
           have := (zAb.1 hj).1
           omega
          have := mul_lt hio hjs
          rw [r6, if_neg (by omega)]
          exact hrel i' j e av he hj
        · cases he
       exact ⟨_, _, G, hk, Gh.Le.refl G, (⟨hr.size, hr.defers, hr.vals, hs⟩ : ARel n G env _ a w').putO (dstOk_spec hdn) (.any _)⟩
end
end Go.Ab
namespace Go.Ab
theorem AWP.varWeak {P : Program} {n : Nat} {c : Code} {K : Exit → Env → Store → Prop} {env : Env} {σ : Store} (l : Nat) {cs cs' : List AV} (hσ : σ[l]? = some (.var cs)) (hl : cs'.length = cs.length)
 (he : ∀ (i : Nat) u v, cs[i]? = some u → cs'[i]? = some v → ∀ M B x, VRel M B u x → VRel M B v x) (hk : AWP P n c K env (σ.set l (.var cs'))) : AWP P n c K env σ := by
 intro G a w hr
 exact hk G a w ⟨hr.size, hr.defers, hr.vals, SRel.retell (o' := .var cs') hr.st hσ fun g _ h => by
  cases h with
  | var b _ c T fr hb hf hl2 hr2 hm =>
    refine .var b cs' c T fr hb hf (hl2.trans hl.symm) (fun i a hi => ?_) hm
    have hlt : i < cs.length := by
     rw [← hl]; exact (zAb.1 hi).1
    exact he i _ a (zA1 hlt) hi _ _ _ (hr2 i _ (zA1 hlt))⟩
theorem EStep.appendArr' {P : Program} {n : Nat} {ops : Array Oper} {o : Oper} {env : Env} {σ : Store} {T : Tab} {k : Env → Store → Prop} (hT : T.Ok P) {s x : Operand} {t tx e : TypeId} {d l sz ver m : Nat} {es es2 es3 : List (List AV)} {u S : AV} {s1 b1 : Nat} {z : List Z} {le : LI} (ho : o.op = .call { callee := .builtin .append, args := #[s, x], argTypes := #[t, tx] })
 (hg : o.guard = none) (hd : o.dst = some d) (hdn : d < n) (hs : Rd env s S) (hS0 : S = .sla l sz 0 es.length ver ∧ es ≠ [] ∨ S = .sl sz [] (.own l) ∧ es = [] ∧ ver = 0) (hσ : σ[l]? = some (.arr sz ver es)) (hx : Rd env x u) (hsrc : AppSrc T tx sz u es2) (hpos : 0 < es2.length)
 (hl : LOk P t ⟨.slice e, s1, b1, z⟩) (he : LOk P e le) (hsz : le.size = sz) (hz0 : le.zero.length = le.size) (hbound : (es.length + es2.length) * le.bytes ≤ 140737488355328) (hb2 : es.length + es2.length ≤ 9223372036854775807) (hm : es.length + es2.length = m) (h3 : es ++ es2 = es3)
 (hk : k (env.put d (.sla l sz 0 m (ver + 1))) (σ.set l (.arr sz (ver + 1) es3))) : EStep P n ops o k env σ := by
 subst hm; subst h3
 exact EStep.appendArr hT ho hg hd hdn hs hS0 hσ hx hsrc hpos hl he hsz hz0 hbound hb2 hk
theorem AWP.kill {P : Program} {n : Nat} {c : Code} {K : Exit → Env → Store → Prop} {env : Env} {σ : Store} (l : Nat) {o : AObj} (hσ : σ[l]? = some o) (hk : AWP P n c K env (σ.set l .dead)) : AWP P n c K env σ := by
 intro G a w hr
 exact hk G a w ⟨hr.size, hr.defers, hr.vals, SRel.retell (o' := .dead) hr.st hσ fun g _ _ => .dead g⟩
section
variable {P : Program} {n : Nat} {K : Exit → Env → Store → Prop} {env : Env}
end
end Go.Ab
namespace Go.Ab
theorem EStep.allocArrV {P : Program} {T : Tab} {n : Nat} {ops : Array Oper} {o : Oper} {env : Env} {σ : Store} {k : Env → Store → Prop} (hT : T.Ok P) {t : TypeId} {d l sz ver : Nat} {es0 : List (List AV)} {li : LI} {cs : List AV} (ho : o.op = .alloc t) (hg : o.guard = none) (hd : o.dst = some d) (hdn : (decide (d < n)) = true) (hl : T.get t = some li) (hf : forceL (li.zero.map Z.av) = some cs) (hsz : decide (li.zero.length = sz ∧ 0 < sz) = true)
 (hσ : σ[l]? = some (.arr sz ver es0)) (hk : k (env.put d (.eptr l sz 0 0 (ver + 1))) (σ.set l (.arr sz (ver + 1) [cs]))) : EStep P n ops o k env σ := by
 refine EStep.plain hg fun G a w hr => ?_
 have hl := LOk.of (hT.get hl)
 have hzl := (of_decide_eq_true hsz).1
 have hrun : (execOp a.eval o).run P w = .ok (.value (.pointer (some ⟨w.heap.size, 0, none⟩))) (w.alloc (.cells li.zeroVal.cells t)) := by
  simp [execOp, ho, Instr.alloc, newVar, newRow, hl.run_zero w]
 have hcells : li.zeroVal.cells = (li.zero.map Z.val).toArray := by
  unfold LI.zeroVal
  cases ha : li.lt.isAgg with
  | true => rfl
  | false =>
    obtain ⟨z, hz⟩ := hl.one ha
    rw [hz]
    cases z <;> rfl
 unfold OWP
 rw [hrun]
 have hcs : cs = li.zero.map Z.av := (forceL_eq hf).symm
 obtain ⟨ob, cap, hB, _, _⟩ := arr_at hr.st hσ
 have hm := mem_lt hr.st.memok
 have hls : l < G.B.length := by
  rcases zA5 l G.B.length with h | h
  · exact h
  · simp [zA4 h] at hB
 have hgl : GB.Le (.own ob cap ver) (.own (some w.heap.size) 1 (ver + 1)) := .inr ⟨_, _, _, rfl, by omega⟩
 have hal := hr.st.alloc (o := .cells li.zeroVal.cells t) (g := .own (some w.heap.size) 1 (ver + 1)) (ao := .arr sz (ver + 1) [cs]) rfl (.arr w.heap.size 1 sz (ver + 1) [cs] li.zeroVal.cells t (0, 0) (by rw [heap_alloc, if_pos rfl]) (by intro o _; simp) (by rw [hcells]; simp [hzl]) (by simp) (fun e he => by
  simp at he; subst he; rw [hcs]; simp [hzl]) (fun i j e c h1 h2 => by
  match i, h1 with
  | 0, h1 =>
    simp at h1; subst h1
    rw [hcs] at h2
    simp only [zA9, zA3] at h2
    obtain ⟨z, hz, rfl⟩ := h2
    rw [hcells]
    have : (li.zero.map Z.val).toArray.getD (0 * sz + j) undef = z.val := by simp [hz, zA2]
    rw [this]; cases z <;> first | exact .prim _ | exact .nils | exact .imapz
  | i + 1, h1 => simp at h1) (hm _ (zAh _)).1)
 have hs : SRel { G with M := G.M, B := G.B.set l (.own (some w.heap.size) 1 (ver + 1)) } (σ.set l (.arr sz (ver + 1) [cs])) (w.alloc (.cells li.zeroVal.cells t)) := by
  refine hr.st.regrow (w' := w.alloc (.cells li.zeroVal.cells t)) hB (Mem.Le.refl _) hgl rfl (by simp) (fun k hk hk2 => by rw [heap_alloc, if_neg (by omega)]) rfl (fun b hb o => rfl) hal.memok (.inr (zAh _)) (by simp) OutR.r ?_
  refine .arr w.heap.size 1 sz (ver + 1) [cs] li.zeroVal.cells t (0, 0) (by rw [heap_alloc, if_pos rfl]) (by intro o _; simp) (by rw [hcells]; simp [hzl]) (by simp) (fun e he => by
   simp at he; subst he; rw [hcs]; simp [hzl]) (fun i j e c h1 h2 => ?_) (hm _ (zAh _)).1
  match i, h1 with
  | 0, h1 =>
    simp at h1; subst h1
    rw [hcs] at h2
    simp only [zA9, zA3] at h2
    obtain ⟨z, hz, rfl⟩ := h2
    rw [hcells]
    have : (li.zero.map Z.val).toArray.getD (0 * sz + j) undef = z.val := by simp [hz, zA2]
    rw [this]; cases z <;> first | exact .prim _ | exact .nils | exact .imapz
  | i + 1, h1 => simp at h1
 have hle : BLe G.B (G.B.set l (.own (some w.heap.size) 1 (ver + 1))) := by
  intro l' g1 h1
  by_cases e : l = l'
  · subst e
    rw [hB] at h1; simp at h1; subst h1
    exact ⟨_, by rw [zAd hls], hgl⟩
  · exact ⟨g1, by rw [zAj e]; exact h1, GB.Le.refl _⟩
 refine ⟨_, _, _, hk, .upB hle, ?_⟩
 rw [hd]
 have hr' : ARel n { G with B := G.B.set l (.own (some w.heap.size) 1 (ver + 1)) } env (σ.set l (.arr sz (ver + 1) [cs])) a (w.alloc (.cells li.zeroVal.cells t)) := hr.later (.upB hle) hs
 refine hr'.put (of_decide_eq_true hdn) ?_
 exact .eptr l sz 0 0 (ver + 1) w.heap.size 0 ⟨some w.heap.size, 1, ver + 1, by rw [zAd hls], zAh _, fun _ => ⟨by omega, (of_decide_eq_true hsz).2, by simp, rfl⟩⟩
section
variable {P : Program} {n : Nat} {ops : Array Oper} {o : Oper} {env : Env} {σ : Store} {T : Tab} {k : Env → Store → Prop}
theorem AWP.arrNilV {c : Code} {K : Exit → Env → Store → Prop} {v i sz : Nat} {cs : List AV} (hv : σ[v]? = some (.var cs)) (hi : cs[i]? = some .nils)
 (hk : AWP P n c K env (σ.set v (.var (cs.set i (.sl sz [] (.own σ.length)))) ++ [.arr sz 0 []])) : AWP P n c K env σ := by
 refine AWP.ownNilV (sz := sz) hv hi ?_
 intro G a w hr
 have hlen : (σ.set v (.var (cs.set i (.sl sz [] (.own σ.length))))).length = σ.length := by simp
 have hs : SRel G (σ.set v (.var (cs.set i (.sl sz [] (.own σ.length)))) ++ [.arr sz 0 []]) w := by
  have := SRel.retell (l := σ.length) (o := .own sz 0) (o' := .arr sz 0 []) hr.st (by rw [zA8 (by rw [hlen]; exact zAh _), hlen]; simp) (fun g hg ho => by
   cases ho with
   | ownz => exact .arrz sz 0
   | own b cap _ _ c T fr hb hf hl hn hm => exact .arr b cap sz 0 [] c T fr hb hf hl (Nat.zero_le _) (fun e he => by cases he) (fun i j e a h1 => by simp at h1) fun o => hm o (by omega))
  rw [List.set_append_right _ _ (by rw [hlen]; exact zAh _), hlen] at this
  simpa using this
 exact hk G a w ⟨hr.size, hr.defers, hr.vals, hs⟩
def frzA (l sz ver : Nat) (es : List (List AV)) : AV → AV
 | .sla l' sz' off len ver' => if l' = l ∧ sz' = sz ∧ off = 0 ∧ len = es.length ∧ ver' = ver then .sl sz es .no else .sla l' sz' off len ver'
 | v => v
def frzAO (l sz ver : Nat) (es : List (List AV)) : AObj → AObj
 | .var cs => .var (cs.map (frzA l sz ver es))
 | o => o
theorem AWP.freezeAV {c : Code} {K : Exit → Env → Store → Prop} {l sz ver : Nat} {es : List (List AV)} (hσ : σ[l]? = some (.arr sz ver es))
 (hpure : ∀ e ∈ es, ∀ a ∈ e, ∀ M B x, VRel M B a x → VRel M [] a x) (h : AWP P n c K (fun i => frzA l sz ver es (env i)) ((σ.set l .dead).map (frzAO l sz ver es))) : AWP P n c K env σ := by
 intro G a w hr
 obtain ⟨ob, cap, hB, hne, hob⟩ := arr_at hr.st hσ
 have hlt : l < σ.length := by
  rcases zA5 l σ.length with h | h
  · exact h
  · simp [zA4 h] at hσ
 have dead : ∀ (M' : Mem), G.M.Le M' → (∀ b, (∀ b0, ob = some b0 → b ≠ b0) → (∀ o, M'.cell b o = G.M.cell b o) ∧ M'.map b = G.M.map b) → MemOk M' w → SRel { G with M := M' } (σ.set l .dead) w := fun M' hle hoth hok => by
  have hown : ∀ b0, ob = some b0 → ¬ G.w0.prot b0 ∧ ∀ (l' : Nat) (g : GB), G.B[l']? = some g → g.block = some b0 → l' = l := fun b0 e => by
   subst e
   exact ⟨(hr.st.fresh l _ b0 hB rfl).1, fun l' g h1 h2 => hr.st.inj l' l g _ b0 h1 hB h2 rfl⟩
  refine ⟨hok, fun b hb => ?_, hr.st.base, by simp [hr.st.len], fun l' g' o' h1 h2 => ?_, hr.st.fresh, hr.st.inj, hr.st.out, ⟨fun p hp => ?_, hr.st.dfr.2⟩⟩
  · have := hoth b fun b0 e eb => (hown b0 e).1 (eb ▸ hb)
    have h0 := hr.st.m0 b hb
    exact ⟨fun o => (this.1 o).trans (h0.1 o), this.2.trans h0.2⟩
  · by_cases hll : l = l'
    · subst hll
      rw [zAd hlt] at h2
      simp at h2; subst h2; exact .dead _
    · rw [zAj hll] at h2
      refine (hr.st.objs l' g' o' h1 h2).grow hle (BLe.refl _) (fun _ _ => rfl) fun b hb => hoth b fun b0 e eb => ?_
      subst eb
      exact hll ((hown b e).2 l' g' h1 hb).symm
  · obtain ⟨k1, k2, k3, k4, k5⟩ := hr.st.dfr.1 p hp
    have := hoth p.1 fun b0 e eb => by
     subst e
     exact k3 l _ hB (by rw [eb]; rfl)
    exact ⟨k1, k2, k3, fun o => (this.1 o).trans (k4 o), this.2.trans k5⟩
 have fin : ∀ (M' : Mem), G.M.Le M' → SRel { G with M := M' } (σ.set l .dead) w → (∀ (X : Value), VRel M' G.B (.sla l sz 0 es.length ver) X → VRel M' G.B (.sl sz es .no) X) → c.wpIn (FR G.R) 0 P (fun x a' w' => ∃ env' σ' G', K x env' σ' ∧ G.Le G' ∧ ARel n G' env' σ' a' w') a w := fun M' hle hs hv => by
  have hf : ∀ u x, VRel M' G.B u x → VRel M' G.B (frzA l sz ver es u) x := by
   intro u x h1
   cases u <;> simp only [frzA] <;> try exact h1
   split
   · rename_i e
     obtain ⟨rfl, rfl, rfl, rfl, rfl⟩ := e
     exact hv _ h1
   · exact h1
  have hO : ∀ g o, ORel M' G.B w g o → ORel M' G.B w g (frzAO l sz ver es o) := by
   intro g o ho
   cases ho with
   | var b' cs c T fr hb2 hf2 hl2 hr2 hm2 =>
     refine .var b' _ c T fr hb2 hf2 (by simpa using hl2) ?_ hm2
     intro i a hi
     simp only [zA9, zA3] at hi
     obtain ⟨a', h7, rfl⟩ := hi
     exact hf _ _ (hr2 i a' h7)
   | ownz => exact .ownz _
   | own b' cap sz n c T fr h1 h2 h3 h4 h5 => exact .own b' cap _ _ c T fr h1 h2 h3 h4 h5
   | arrz => exact .arrz _ _
   | arr b' cap sz ver es' c T fr h1 h2 h3 h4 h5 h6 h7 => exact .arr b' cap _ _ _ c T fr h1 h2 h3 h4 h5 h6 h7
   | map b' kvs es' clock h1 h2 h3 h4 h5 h6 => exact .map b' _ es' clock h1 h2 h3 h4 h5 h6
   | siter b' s pos h1 => exact .siter b' _ _ h1
   | loop b' r E h1 h2 => exact .loop b' _ _ h1 h2
   | dead => exact .dead _
  have hs' : SRel { G with M := M' } ((σ.set l .dead).map (frzAO l sz ver es)) w := SRel.mapO hs _ hO
  refine wpIn_mono (h { G with M := M' } a w ⟨hr.size, hr.defers, fun i => hf _ _ ((hr.vals i).mono hle (BLe.refl _)), hs'⟩) ?_
  rintro x a' w' ⟨e, s, G', h1, h2, h3⟩
  exact ⟨e, s, G', h1, Gh.Le.trans (G' := { G with M := M' }) (.upM hle) h2, h3⟩
 by_cases hes : es = []
 · subst hes
   exact fin G.M (Mem.Le.refl _) (dead G.M (Mem.Le.refl _) (fun _ _ => ⟨fun _ => rfl, rfl⟩) hr.st.memok) fun X hX => by
    cases hX with
    | sla _ _ _ _ _ ad cc hq => exact .slzz sz ad cc
 · obtain ⟨b, rfl⟩ := hne hes
   obtain ⟨cs, T', fr, hbb, hf, hlen, hn, hz, hrel, hm⟩ := hob b rfl
   have hlen0 : es.length ≠ 0 := fun e => hes (zAs e)
   have hle := Mem.le_addBlk (M := G.M) (b := b) cs hm
   refine fin (G.M.addBlk b cs) hle (dead _ hle (fun b' hb' => ?_) ?_) fun X hX => ?_
   · have := hb' b rfl
     exact ⟨fun o => by simp only [Mem.addBlk, if_neg this], rfl⟩
   · refine ⟨fun b' o v hv => ?_, hr.st.memok.m, hr.st.memok.g.mono hle⟩
     simp only [Mem.addBlk] at hv
     split at hv
     · rename_i e; subst e
       simp only [World.cell?, hbb]; exact hv
     · exact hr.st.memok.c _ _ _ hv
   · cases hX with
     | sla _ _ _ _ _ ad cc hq =>
       obtain ⟨ob', cap', n', g1, g2, g3⟩ := hq
       rw [hB] at g1; simp at g1
       obtain ⟨rfl, rfl, rfl⟩ := g1
       obtain ⟨g4, g5⟩ := g3 rfl
       rcases g5 with g5 | ⟨rfl, rfl⟩
       · exact absurd g5 hlen0
       simp only [zBc, zDe, Nat.sub_zero]
       refine .sl sz es .no b 0 _ (fun i j => cs.getD (i * sz + j) undef) hz (fun i j hi hj => ?_) (fun i j e a he ha => ?_) hn trivial
       · have h1 := mul_lt (zBx hi hn) hj
         have h2 : i * sz + j < cs.size := by rw [hlen]; exact h1
         simp only [Mem.addBlk, if_pos rfl, zBn]
         simp [h2]
       · exact hpure e (zAc he) a (zAc ha) _ _ _ ((hrel i j e a he ha).mono hle (BLe.refl _))
end
end Go.Ab
