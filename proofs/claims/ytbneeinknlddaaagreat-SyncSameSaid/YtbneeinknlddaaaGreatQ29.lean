/- Growing arrays whose elements change: a nil slice, append, a store into a part of an element. No statement is proved here. -/
import Derived.Test.YtbneeinknlddaaaGreatQ12
set_option linter.unusedVariables false
set_option linter.unusedSimpArgs false
namespace Go.Ab
section
variable {P : Program} {n : Nat} {ops : Array Oper} {o : Oper} {env : Env} {σ : Store} {T : Tab} {k : Env → Store → Prop}
theorem AWP.arrNil {c : Code} {K : Exit → Env → Store → Prop} {d : Nat} (sz : Nat) (hd : env d = .nils) (hk : AWP P n c K (env.put d (.sl sz [] (.own σ.length))) (σ ++ [.arr sz 0 []])) : AWP P n c K env σ := by
 intro G a w hr
 have hl : (G.B ++ [GB.own none 0 0])[σ.length]? = some (.own none 0 0) := by rw [← hr.st.len]; simp
 have hs0 := hr.st.ownNil sz
 have hs : SRel { G with B := G.B ++ [.own none 0 0] } (σ ++ [.arr sz 0 []]) w := by
  have := SRel.retell (l := σ.length) (o := .own sz 0) (o' := .arr sz 0 []) hs0 (by simp) (fun g hg _ => by
   rw [hl] at hg; simp at hg; subst hg; exact .arrz sz 0)
  simpa using this
 have hr' : ARel n { G with B := G.B ++ [.own none 0 0] } (env.put d (.sl sz [] (.own σ.length))) (σ ++ [.arr sz 0 []]) a w := by
  refine ⟨hr.size, hr.defers, fun i => ?_, hs⟩
  simp only [Env.put]
  split
  · rename_i e; subst e
    have h2 := hr.vals i
    rw [hd] at h2
    generalize a.tmps.getD i undef = X at h2 ⊢
    cases h2
    exact .slz sz _ ⟨none, 0, 0, hl, zAi _, fun _ => ⟨rfl, rfl⟩⟩
  · exact (hr.vals i).mono (Mem.Le.refl _) (BLe.append _ _)
 refine wpIn_mono (hk { G with B := G.B ++ [.own none 0 0] } a w hr') ?_
 rintro x a' w' ⟨e', s', G', h1, h2, h3⟩
 exact ⟨e', s', G', h1, Gh.Le.trans (G' := { G with B := G.B ++ [.own none 0 0] }) (.upB (BLe.append _ _)) h2, h3⟩
theorem EStep.appendArr (hT : T.Ok P) {s x : Operand} {t tx e : TypeId} {d l sz ver : Nat} {es es2 : List (List AV)} {u S : AV} {s1 b1 : Nat} {z : List Z} {le : LI} (ho : o.op = .call { callee := .builtin .append, args := #[s, x], argTypes := #[t, tx] })
 (hg : o.guard = none) (hd : o.dst = some d) (hdn : d < n) (hs : Rd env s S) (hS0 : S = .sla l sz 0 es.length ver ∧ es ≠ [] ∨ S = .sl sz [] (.own l) ∧ es = [] ∧ ver = 0) (hσ : σ[l]? = some (.arr sz ver es)) (hx : Rd env x u) (hsrc : AppSrc T tx sz u es2) (hpos : 0 < es2.length)
 (hl : LOk P t ⟨.slice e, s1, b1, z⟩) (he : LOk P e le) (hsz : le.size = sz) (hz0 : le.zero.length = le.size) (hbound : (es.length + es2.length) * le.bytes ≤ 140737488355328) (hb2 : es.length + es2.length ≤ 9223372036854775807)
 (hk : k (env.put d (.sla l sz 0 (es.length + es2.length) (ver + 1))) (σ.set l (.arr sz (ver + 1) (es ++ es2)))) : EStep P n ops o k env σ := by
 refine EStep.plain hg fun G a w hr => ?_
 have h1 := hr.rd hs
 obtain ⟨news, hS, hN⟩ := hsrc.src hT hr.st.memok (hr.rd hx)
 generalize hA : a.eval s = sv at h1
 obtain ⟨i, hi1, hi2, hi3, hi4⟩ := he.info
 have hund := hl.undSlice
 have hS' : Src P i.size tx (a.eval x) es2.length news w := by rw [hi2, hsz]; exact hS
 have hNs : news.length = es2.length * sz := by have := hN.1; simpa using this
 obtain ⟨ob, cap, hB, hne, hob⟩ := arr_at hr.st hσ
 have hobj := hr.st.objs l _ _ hB hσ
 have hsv : sv = .slice (ob.map fun b => ⟨b, 0, none⟩) es.length cap := by
  rcases hS0 with ⟨rfl, hn⟩ | ⟨rfl, rfl, rfl⟩
  · cases h1 with
    | sla _ _ _ _ _ a c hr =>
      obtain ⟨ob', cap', n', g1, g2, g3⟩ := hr
      rw [hB] at g1; simp at g1
      obtain ⟨rfl, rfl, rfl⟩ := g1
      obtain ⟨g4, g5⟩ := g3 rfl
      rcases g5 with g5 | ⟨rfl, rfl⟩
      · exact absurd (zAr g5) hn
      · simp
  · cases h1 with
    | sl _ _ _ b off cap' f hz hm hr' hc ht =>
      obtain ⟨ob', cp, n', g1, g2, g3⟩ := ht
      rw [hB] at g1; simp at g1
      obtain ⟨rfl, rfl, rfl⟩ := g1
      obtain ⟨g4, g5⟩ := g3 rfl
      cases ob with
      | none => simp at g4
      | some b' =>
        simp at g4
        obtain ⟨rfl, rfl⟩ := g4
        subst g5; rfl
    | slz _ _ ht =>
      obtain ⟨ob', cp, n', g1, g2, g3⟩ := ht
      rw [hB] at g1; simp at g1
      obtain ⟨rfl, rfl, rfl⟩ := g1
      obtain ⟨g4, g5⟩ := g3 rfl
      cases ob with
      | none => subst g5; rfl
      | some b' => simp at g4
 subst hsv
 have hgle : ∀ b' c', (GB.own ob cap ver).Le (.own b' c' (ver + 1)) := fun b' c' => .inr ⟨_, _, _, rfl, Nat.lt_succ_self _⟩
 have hlB : l < G.B.length := by
  rcases zA8 l G.B.length with h' | h'
  · exact h'
  · simp [zA3 h'] at hB
 have hzc : le.zeroVal.cells.size = sz := by
  unfold LI.zeroVal
  cases ha : le.lt.isAgg with
  | true => simp [Value.cells, hz0, hsz]
  | false =>
    obtain ⟨z', hz'⟩ := he.one ha
    rw [hz'] at hz0 ⊢
    simp at hz0
    rw [← hsz, ← hz0]
    cases z' <;> rfl
 -- the end: the new place
 have fin : ∀ (b c' : Nat) (w' : World), SRel { G with B := G.B.set l (.own (some b) c' (ver + 1)) } (σ.set l (.arr sz (ver + 1) (es ++ es2))) w' → es.length + es2.length ≤ c' →
  ∃ env' σ' G', k env' σ' ∧ G.Le G' ∧ ARel n G' env' σ' (a.put o.dst (.slice (some ⟨b, 0, none⟩) (es.length + es2.length) c')) w' := fun b c' w' hs2 hle => by
  have hG : G.Le { G with B := G.B.set l (.own (some b) c' (ver + 1)) } := .upB (BLe.set hB (hgle _ _))
  refine ⟨_, _, _, hk, hG, ?_⟩
  rw [hd]
  have hr' : ARel n { G with B := G.B.set l (.own (some b) c' (ver + 1)) } env (σ.set l (.arr sz (ver + 1) (es ++ es2))) a w' := hr.later hG hs2
  exact hr'.put hdn (.sla _ sz 0 _ (ver + 1) _ _ ⟨some b, c', ver + 1, by rw [zAp hlB], zAi _, fun _ => ⟨by omega, .inr ⟨by omega, by simp⟩⟩⟩)
 have hzall : ∀ b, ob = some b → ∀ x ∈ es ++ es2, x.length = sz := fun b hb x hx => by
  obtain ⟨c, T', fr, _, _, _, _, hz, _, _⟩ := hob b hb
  exact (zAe.1 hx).elim (hz x) (hN.2.1 x)
 by_cases hroom : es.length + es2.length ≤ cap
 · cases ob with
   | none =>
     exfalso
     cases hobj with
     | arrz => simp only [zA9] at hroom; omega
   | some b =>
     obtain ⟨c, T', fr, hb, hf, hlc, hn, hz, hrel, hm⟩ := hob b rfl
     have hcs : (es.length + es2.length) * sz ≤ c.size := by rw [hlc]; exact zB6 _ hroom
     rw [zBc] at hcs
     obtain ⟨w', c', r1, r2, r3, r4, r5, r6, rout⟩ := run_storeCells (P := P) (b := b) (off := es.length * sz) (T := T') (fr := fr) news 0 c w hb hf hS.one (by omega)
     have hrun := run_append_room' (P := P) w w' t tx o.type e i hund hi1 b 0 es.length cap (a.eval x) es2.length news hS' hroom (by rw [hi2, hsz, zBs]; exact r1)
     have hrun2 : (execOp a.eval o).run P w = .ok (.value (.slice (some ⟨b, 0, none⟩) (es.length + es2.length) cap)) w' := by simp [execOp, ho, resolve, invoke, builtin, hA, hrun]
     unfold OWP
     rw [hrun2]
     simp only [zBk] at r6
     have hmapb : G.M.map b = none := mem_of_notmap hr.st.memok hb (by intros; simp)
     have hok : MemOk G.M w' := by
      refine ⟨fun b2 o v hv => ?_, fun b2 es' hb2' => ?_, hr.st.memok.g⟩
      · have hne2 : b2 ≠ b := fun e2 => by subst e2; rw [hm o] at hv; cases hv
        have h2 := hr.st.memok.1 _ _ _ hv
        simp only [World.cell?] at h2 ⊢
        rw [r3 _ hne2]; exact h2
      · have hne2 : b2 ≠ b := fun e2 => by subst e2; rw [hmapb] at hb2'; cases hb2'
        obtain ⟨cl, h2⟩ := hr.st.memok.2 _ _ hb2'
        exact ⟨cl, by rw [r3 _ hne2]; exact h2⟩
     have hblt := (hr.st.fresh l _ b hB rfl).2
     refine fin b cap w' ?_ hroom
     refine hr.st.regrow (M' := G.M) hB (Mem.Le.refl _) (hgle _ _) rfl (by omega) (fun k hk _ => r3 k hk) rfl (fun _ _ _ => rfl) hok (.inl rfl) (by omega) rout ?_
     refine .arr b cap sz (ver + 1) (es ++ es2) c' T' fr r4 (by rw [r5]; exact hf) (by rw [r5, hlc]) (by simpa using hroom) (hzall b rfl) (fun i j x v hi hj => ?_) hm
     have hxl : x.length = sz := hzall b rfl x (zAm hi)
     have hjs : j < sz := by
      have := (zAw.1 hj).1
      omega
     rw [r6]
     rcases zA8 i es.length with h | h
     · rw [zA5 h] at hi
       rw [if_neg (by have := mul_lt h hjs; omega)]
       exact (hrel i j x v hi hj).mono (Mem.Le.refl _) (BLe.set hB (hgle _ _))
     · rw [zA7 h] at hi
       have hi2' : i - es.length < es2.length := (zAw.1 hi).1
       have e1 : i * sz + j = es.length * sz + ((i - es.length) * sz + j) := by
        rw [← zBy, ← zBc]; congr 2; omega
       have hlt := mul_lt hi2' hjs
       rw [e1, if_pos ⟨by omega, by rw [hNs]; omega⟩, zCi]
       have := hN.2.2 _ j x v hi hj
       have e2 : news.toArray.getD ((i - es.length) * sz + j) undef = news.getD ((i - es.length) * sz + j) undef := by simp [List.getD]
       rw [e2] at this
       exact this.mono (Mem.Le.refl _) (BLe.nil _)
 · -- a new row
   have holds : ∃ olds : List Value, olds.length = es.length * sz ∧ (Builtin.firstCells i.size es.length (.slice (ob.map fun b => ⟨b, 0, none⟩) es.length cap)).run P w.drew = .ok olds.toArray w.drew ∧
    (∀ x ∈ es, x.length = sz) ∧ ∀ (i j : Nat) (x : List AV) (v : AV), es[i]? = some x → x[j]? = some v → VRel G.M G.B v (olds.getD (i * sz + j) undef) := by
    cases ob with
    | none =>
      have : es = [] := by
       rcases es with _ | ⟨x, es⟩
       · rfl
       · obtain ⟨b, hb⟩ := hne (by simp); cases hb
      subst this
      exact ⟨[], by simp, rfl, by simp, fun i j x v h => by simp at h⟩
    | some b =>
      obtain ⟨c, T', fr, hb, hf, hlc, hn, hz, hrel, hm⟩ := hob b rfl
      have hcs : es.length * sz ≤ c.size := by rw [hlc]; exact zB6 _ hn
      refine ⟨(List.range (es.length * sz)).map fun k => c.getD k undef, by simp, ?_, hz, fun i j x v hi hj => ?_⟩
      · have := run_loadCells_list (P := P) w.drew ⟨b, 0, none⟩ ((List.range (es.length * sz)).map fun k => c.getD k undef) (fun j v hj => by
         simp only [zAd, zA6] at hj
         obtain ⟨k, hk, rfl⟩ := hj
         have hj2 := (zAw.1 hk).1
         simp at hj2
         have hk2 : k = j := by have := (zAw.1 hk).2; simpa using this.symm
         subst hk2
         have h3 : k < c.size := by omega
         show (World.cell? w.drew _) = _
         have hb' : w.drew.heap[b]? = some (.cells c T' fr) := hb
         simp [World.cell?, addr_add, hb', h3])
        simp only [zBw, zCq] at this
        simp only [Option.map, Builtin.firstCells, hi2, hsz]
        exact this
      · have := hrel i j x v hi hj
        have hxl := hz x (zAm hi)
        have hjs : j < sz := by
         have := (zAw.1 hj).1
         omega
        have hlt := mul_lt (zAw.1 hi).1 hjs
        have e2 : ((List.range (es.length * sz)).map fun k => c.getD k undef).getD (i * sz + j) undef = c.getD (i * sz + j) undef := by
         simp [List.getD, hlt]
        rw [e2]; exact this
   obtain ⟨olds, hOs, hold, hz, hrel⟩ := holds
   have hlt : cap < es.length + es2.length := by omega
   have hrun := run_append_grow_src (P := P) w t tx o.type e i le.zeroVal hund hi1 (by rw [hi4]; rfl) (ob.map fun b => ⟨b, 0, none⟩) es.length cap olds hold (a.eval x) es2.length news hS' hlt (by omega) (growslice_fits hlt (by rw [hi3]; exact hbound))
   have hcapge : es.length + es2.length ≤ grownCap w (es.length + es2.length) cap e := by unfold grownCap Question.cut; exact Nat.le_add_right _ _
   generalize hrow : ((olds ++ news).toArray ++ Builtin.zeroCells le.zeroVal.cells (grownCap w (es.length + es2.length) cap e - (es.length + es2.length))) = row at hrun
   have hrowsz : row.size = grownCap w (es.length + es2.length) cap e * sz := by
    rw [← hrow]
    simp only [Array.size_append, zCp, zAt, size_zeroCells, hzc, hOs, hNs, ← zBc]
    congr 1; omega
   have hrun2 : (execOp a.eval o).run P w = .ok (.value (.slice (some ⟨w.heap.size, 0, none⟩) (es.length + es2.length) (grownCap w (es.length + es2.length) cap e))) (w.drew.alloc (.cells row e)) := by
    simp [execOp, ho, resolve, invoke, builtin, hA, hrun]
   unfold OWP
   rw [hrun2]
   have row1 : ∀ o, o < es.length * sz → row.getD o undef = olds.getD o undef := by
    intro o ho
    rw [← hrow]
    simp only [zA4, zD0]
    rw [zAl (by simp; omega)]
    simp only [zBz]
    rw [zA5 (by omega)]; simp [List.getD]
   have row2 : ∀ o, o < es2.length * sz → row.getD (es.length * sz + o) undef = news.toArray.getD o undef := by
    intro o ho
    rw [← hrow]
    simp only [zA4, zD0]
    rw [zAl (by simp; omega)]
    simp only [zBz]
    rw [zA7 (by omega), hOs, zCi]
   have hm0 := mem_lt hr.st.memok _ (zAi w.heap.size)
   have hheap : (w.drew.alloc (.cells row e)).heap[w.heap.size]? = some (.cells row e) := by rw [heap_alloc]; simp
   have hok : MemOk G.M (w.drew.alloc (.cells row e)) := by
    refine ⟨fun b o v hv => ?_, fun b es' hb => ?_, hr.st.memok.g⟩
    · have h2 := hr.st.memok.1 _ _ _ hv
      have hlt2 := World.block_lt_of_cell? _ _ h2
      have : (w.drew.alloc (.cells row e)).cell? ⟨b, o, none⟩ = w.drew.cell? ⟨b, o, none⟩ := World.cell?_alloc_lt _ _ _ hlt2
      rw [this]; exact h2
    · obtain ⟨cl, h2⟩ := hr.st.memok.2 _ _ hb
      refine ⟨cl, ?_⟩
      rw [heap_alloc]
      split
      · rename_i eb; subst eb; simp at h2
      · exact h2
   refine fin w.heap.size _ _ ?_ hcapge
   refine hr.st.regrow (M' := G.M) hB (Mem.Le.refl _) (hgle _ _) rfl (by simp) (fun k hk hk2 => by rw [heap_alloc]; simp [Nat.ne_of_lt hk2]; rfl) rfl (fun _ _ _ => rfl) hok (.inr (zAi _)) (by simp) OutR.r ?_
   refine .arr w.heap.size _ sz (ver + 1) (es ++ es2) row e (0, 0) hheap (by intro o _; simp) hrowsz (by simpa using hcapge) (fun x hx => (zAe.1 hx).elim (hz x) (hN.2.1 x)) (fun i j x v hi hj => ?_) hm0.1
   have hxl : x.length = sz := (zAe.1 (zAm hi)).elim (hz x) (hN.2.1 x)
   have hjs : j < sz := by
    have := (zAw.1 hj).1
    omega
   rcases zA8 i es.length with h | h
   · rw [zA5 h] at hi
     rw [row1 _ (mul_lt h hjs)]
     exact (hrel i j x v hi hj).mono (Mem.Le.refl _) (BLe.set hB (hgle _ _))
   · rw [zA7 h] at hi
     have hi2' : i - es.length < es2.length := (zAw.1 hi).1
     have e1 : i * sz + j = es.length * sz + ((i - es.length) * sz + j) := by
      rw [← zBy, ← zBc]; congr 2; omega
     rw [e1, row2 _ (mul_lt hi2' hjs)]
     exact (hN.2.2 _ j x v hi hj).mono (Mem.Le.refl _) (BLe.nil _)
end
end Go.Ab
