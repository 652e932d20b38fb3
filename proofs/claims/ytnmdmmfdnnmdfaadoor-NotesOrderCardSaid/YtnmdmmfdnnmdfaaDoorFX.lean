/- Appends to an empty slice that was written out: at a growing array that was numbered ahead. -/
import Derived.Test.YtnmdmmfdnnmdfaaDoorFU
set_option linter.unusedVariables false
set_option linter.unusedSimpArgs false
namespace Go.Ab
/-- The first argument may be told more closely. -/
theorem PCall.argE {P : Program} {f : FuncId} {u v : AV} {l : List AV} {r : AV} (he : Ent u v) (h : PCall P f (v :: l) r) : PCall P f (u :: l) r :=
  ⟨h.1, fun M w vs hm ha => h.2 M w vs hm ⟨ha.1, fun i c hi => by
    match i, hi with
    | 0, hi =>
      have h1 := ha.2 0 u rfl
      simp at hi; subst hi
      exact he _ _ h1
    | i + 1, hi => exact ha.2 (i + 1) c hi⟩⟩
section
variable {P : Program} {n : Nat} {ops : Array Oper} {o : Oper} {env : Env} {σ : Store} {k : Env → Store → Prop} {T : Tab}
/-- append([]T{}, x..), where x has elements. -/
theorem EStep.appendAt (hT : T.Ok P) {s x : Operand} {t tx e : TypeId} {d l sz : Nat} {es2 : List (List AV)} {u : AV} {s1 b1 : Nat} {z : List Z} {le : LI} (ho : o.op = .call { callee := .builtin .append, args := #[s, x], argTypes := #[t, tx] })
    (hg : o.guard = none) (hd : o.dst = some d) (hdn : d < n) (hs : Rd env s (.sl sz [] .fresh)) (hσ : σ[l]? = some (.own sz 0)) (hx : Rd env x u) (hsrc : AppSrc T tx sz u es2) (hpos : 0 < es2.length)
    (hl : LOk P t ⟨.slice e, s1, b1, z⟩) (he : LOk P e le) (hsz : le.size = sz) (hz0 : le.zero.length = le.size) (hbound : es2.length * le.bytes ≤ 140737488355328) (hb2 : es2.length ≤ 9223372036854775807)
    (hk : k (env.put d (.sl sz es2 (.own l))) (σ.set l (.own sz es2.length))) : EStep P n ops o k env σ := by
  refine EStep.plain hg fun G a w hr => ?_
  have h1 := hr.rd hs
  obtain ⟨news, hS, hN⟩ := hsrc.src hT hr.st.memok (hr.rd hx)
  generalize hA : a.eval s = sv at h1
  obtain ⟨i, hi1, hi2, hi3, hi4⟩ := he.info
  have hund := hl.undSlice
  have hS' : Src P i.size tx (a.eval x) es2.length news w := by rw [hi2, hsz]; exact hS
  have hNs : news.length = es2.length * sz := by have := hN.1; simpa using this
  have hsv : ∃ ad, sv = .slice ad 0 0 := by
    cases h1 with
    | sl _ _ _ b off cap f hz hm hr hc ht => exact ⟨_, by rw [show cap = 0 from ht]; rfl⟩
    | slz => exact ⟨none, rfl⟩
  obtain ⟨ad, rfl⟩ := hsv
  have hgb : ∃ g, G.B[l]? = some g := ⟨_, List.getElem?_eq_getElem (by
    rw [hr.st.len]
    rcases Nat.lt_or_ge l σ.length with h | h
    · exact h
    · simp [List.getElem?_eq_none h] at hσ)⟩
  obtain ⟨g, hgl⟩ := hgb
  have hobj := hr.st.objs l g _ hgl hσ
  have hzc : le.zeroVal.cells.size = sz := by
    unfold LI.zeroVal
    cases ha : le.lt.isAgg with
    | true => simp [Value.cells, hz0, hsz]
    | false =>
      obtain ⟨z', hz'⟩ := he.one ha
      rw [hz'] at hz0 ⊢
      simp at hz0
      rw [← hsz, ← hz0]
      cases z' <;> rfl
  have hgle : g.Le (.own (some w.heap.size) (grownCap w es2.length 0 e) es2.length) := by
    cases hobj with
    | ownz => exact .inr ⟨_, _, _, rfl, hpos⟩
    | own b cap sz n' c T' fr hb hf hlc hn hm => exact .inr ⟨_, _, _, rfl, hpos⟩
  have hold : (Builtin.firstCells i.size 0 (.slice ad 0 0)).run P w.drew = .ok ([] : List Value).toArray w.drew := by
    cases ad with
    | none => rfl
    | some ad =>
      have := run_loadCells_list (P := P) w.drew ad [] (fun j v hj => by simp at hj)
      simp only [Builtin.firstCells, Nat.zero_mul]
      simpa using this
  have hrun := run_append_grow_src (P := P) w t tx o.type e i le.zeroVal hund hi1 (by rw [hi4]; rfl) ad 0 0 [] hold (a.eval x) es2.length news hS' (by omega) (by omega) (growslice_fits (by omega) (by rw [hi3]; simpa using hbound))
  simp only [Nat.zero_add, List.nil_append] at hrun
  have hcapge : es2.length ≤ grownCap w es2.length 0 e := grownCap_ge _ _ _ _
  generalize hrow : (news.toArray ++ Builtin.zeroCells le.zeroVal.cells (grownCap w es2.length 0 e - es2.length)) = row at hrun
  have hrowsz : row.size = grownCap w es2.length 0 e * sz := by
    rw [← hrow]
    simp only [Array.size_append, List.size_toArray, size_zeroCells, hzc, hNs, ← Nat.add_mul]
    congr 1; omega
  have hrun2 : (execOp a.eval o).run P w = .ok (.value (.slice (some ⟨w.heap.size, 0, none⟩) es2.length (grownCap w es2.length 0 e))) (w.drew.alloc (.cells row e)) := by
    simp [execOp, ho, resolve, invoke, builtin, hA, hrun]
  unfold OWP
  rw [hrun2]
  have row2 : ∀ o, o < es2.length * sz → row.getD o undef = news.toArray.getD o undef := by
    intro o ho
    rw [← hrow]
    simp only [Array.getD_eq_getD_getElem?]
    rw [Array.getElem?_append_left (by simp; omega)]
  have hm0 := (mem_lt hr.st.memok _ (Nat.le_refl w.heap.size)).1
  let M' : Mem := { G.M with cell := fun b o => if b = w.heap.size then (if o < es2.length * sz then some (row.getD o undef) else none) else G.M.cell b o }
  have hle : G.M.Le M' := ⟨fun b o v hv => by
    show (if b = w.heap.size then _ else _) = _
    split
    · rename_i e; subst e; rw [hm0 o] at hv; cases hv
    · exact hv, fun _ _ h => h⟩
  have hheap : (w.drew.alloc (.cells row e)).heap[w.heap.size]? = some (.cells row e) := by rw [heap_alloc]; simp
  have hok : MemOk M' (w.drew.alloc (.cells row e)) := by
    refine ⟨fun b o v hv => ?_, fun b es' hb => ?_, hr.st.memok.g.mono hle⟩
    · change (if b = w.heap.size then _ else _) = _ at hv
      split at hv
      · rename_i eb; subst eb
        split at hv
        · rename_i ho
          have hlt2 : o < row.size := by
            rw [hrowsz]
            exact Nat.lt_of_lt_of_le ho (Nat.mul_le_mul_right _ hcapge)
          simp only [World.cell?, hheap]
          simp at hv
          simp [hlt2, ← hv]
        · simp at hv
      · have h2 := hr.st.memok.1 _ _ _ hv
        have hlt2 := World.block_lt_of_cell? _ _ h2
        have : (w.drew.alloc (.cells row e)).cell? ⟨b, o, none⟩ = w.drew.cell? ⟨b, o, none⟩ := World.cell?_alloc_lt _ _ _ hlt2
        rw [this]; exact h2
    · obtain ⟨cl, h2⟩ := hr.st.memok.2 _ _ hb
      refine ⟨cl, ?_⟩
      rw [heap_alloc]
      split
      · rename_i eb; subst eb; simp at h2
      · exact h2
  have hcells : ∀ o, o < es2.length * sz → M'.cell w.heap.size o = some (row.getD o undef) := fun o ho => by
    show (if w.heap.size = w.heap.size then _ else _) = _
    rw [if_pos rfl, if_pos ho]
  have hs2 : SRel { G with M := M', B := G.B.set l (.own (some w.heap.size) (grownCap w es2.length 0 e) es2.length) } (σ.set l (.own sz es2.length)) (w.drew.alloc (.cells row e)) := by
    refine hr.st.regrow hgl hle hgle rfl (by simp) (fun k hk hk2 => by rw [heap_alloc]; simp [Nat.ne_of_lt hk2]; rfl) rfl (fun b hb o => if_neg hb) hok (.inr (Nat.le_refl _)) (by simp) OutR.r ?_
    exact .own w.heap.size _ sz _ row e (0, 0) hheap (by intro o _; simp) hrowsz hcapge fun o ho => by
      show (if w.heap.size = w.heap.size then _ else _) = _
      rw [if_pos rfl, if_neg (by omega)]
  have hG : G.Le { G with M := M', B := G.B.set l (.own (some w.heap.size) (grownCap w es2.length 0 e) es2.length) } := .up hle (BLe.set hgl hgle)
  refine ⟨_, _, _, hk, hG, ?_⟩
  rw [hd]
  have hr' : ARel n { G with M := M', B := G.B.set l (.own (some w.heap.size) (grownCap w es2.length 0 e) es2.length) } env (σ.set l (.own sz es2.length)) a (w.drew.alloc (.cells row e)) := ⟨hr.size, hr.defers, fun i => (hr.vals i).mono hle (BLe.set hgl hgle), hs2⟩
  refine hr'.put hdn ?_
  have hN' : AppRel M' sz es2 news.toArray := ⟨hN.1, hN.2.1, fun i j e a x y => (hN.2.2 i j e a x y).mono hle (BLe.refl _)⟩
  have hO' : AppRel M' sz [] ([] : List Value).toArray := ⟨by simp, by simp, fun i j e a h => by simp at h⟩
  have := vrel_row (M := M') (B := G.B.set l (.own (some w.heap.size) (grownCap w es2.length 0 e) es2.length)) (sz := sz) (es := [] ++ es2) (t := .own l) (b := w.heap.size) (cap := grownCap w es2.length 0 e) (c := row)
    (fun e he => hN.2.1 e (by simpa using he)) (by simpa using hcapge) (fun o ho => hcells o (by simpa using ho)) (get_append2 hO' hN' (fun o ho => by simp at ho) (fun o ho => by simpa using row2 o ho))
    ⟨some w.heap.size, grownCap w es2.length 0 e, es2.length, by rw [List.getElem?_set_self (by
      rcases Nat.lt_or_ge l G.B.length with h | h
      · exact h
      · simp [List.getElem?_eq_none h] at hgl)], by simp, fun _ => ⟨by simp, rfl⟩⟩
  simpa using this
/-- append([]T{}, x..), where x has no elements. -/
theorem EStep.appendE (hT : T.Ok P) {s x : Operand} {t tx e : TypeId} {d sz : Nat} {u : AV} {s1 b1 : Nat} {z : List Z} {le : LI} (ho : o.op = .call { callee := .builtin .append, args := #[s, x], argTypes := #[t, tx] })
    (hg : o.guard = none) (hd : o.dst = some d) (hdn : d < n) (hs : Rd env s (.sl sz [] .fresh)) (hx : Rd env x u) (hsrc : AppSrc T tx sz u [])
    (hl : LOk P t ⟨.slice e, s1, b1, z⟩) (he : LOk P e le) (hsz : le.size = sz)
    (hk : k (env.put d (.sl sz [] .fresh)) σ) : EStep P n ops o k env σ := by
  refine EStep.plain hg fun G a w hr => ?_
  have h1 := hr.rd hs
  obtain ⟨news, hS, hN⟩ := hsrc.src hT hr.st.memok (hr.rd hx)
  have h1' := h1
  generalize hA : a.eval s = sv at h1 h1'
  obtain ⟨i, hi1, hi2, hi3, hi4⟩ := he.info
  have hund := hl.undSlice
  have hS' : Src P i.size tx (a.eval x) 0 news w := by rw [hi2, hsz]; exact hS
  have hnews : news = [] := List.eq_nil_of_length_eq_zero (by have := hN.1; simpa using this)
  have hsv : ∃ ad, sv = .slice ad 0 0 := by
    cases h1 with
    | sl _ _ _ b off cap f hz hm hr hc ht => exact ⟨_, by rw [show cap = 0 from ht]; rfl⟩
    | slz => exact ⟨none, rfl⟩
  obtain ⟨ad, rfl⟩ := hsv
  have hrun : (Builtin.append_ #[t, tx] o.type #[.slice ad 0 0, a.eval x]).run P w = .ok (.slice ad 0 0) w := by
    have hcc := hS'.cells
    have hll := hS'.len
    subst hnews
    cases ad with
    | none => rcases hS.kind with ⟨e', hk'⟩ | hk' <;> simp [Builtin.append_, run_underlying hund, run_underlying hk', sizeOf, typeInfo, hi1, hll, hcc]
    | some ad => rcases hS.kind with ⟨e', hk'⟩ | hk' <;> simp [Builtin.append_, run_underlying hund, run_underlying hk', sizeOf, typeInfo, hi1, hll, hcc, storeCells]
  have hrun2 : (execOp a.eval o).run P w = .ok (.value (.slice ad 0 0)) w := by simp [execOp, ho, resolve, invoke, builtin, hA, hrun]
  unfold OWP
  rw [hrun2]
  refine ⟨_, _, G, hk, Gh.Le.refl G, ?_⟩
  rw [hd]
  exact hr.put hdn h1'
end
end Go.Ab
