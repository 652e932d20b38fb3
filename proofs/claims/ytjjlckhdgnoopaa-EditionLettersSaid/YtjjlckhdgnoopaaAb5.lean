/- Operations that make or change the call's own objects: box, alloc, store. -/
import Derived.Test.YtjjlckhdgnoopaaAb4
namespace Go.Ab

/-- The cells of a value. -/
def cellsAV : AV → Option (List AV)
  | .agg cs => some cs
  | .prim (.agg _) => none
  | .prim (.tuple _) => none
  | .prim v => some [.prim v]
  | .nils => some [.nils]
  | .sl sz es t => some [.sl sz es t]
  | .ptr l o => some [.ptr l o]
  | .iptr cs => some [.iptr cs]
  | .fn f a c => some [.fn f a c]
  | .map l => some [.map l]
  | .imap k => some [.imap k]
  | _ => none

/-- A value of one cell. -/
def oneAV : AV → Bool
  | .prim (.agg _) => false
  | .prim (.tuple _) => false
  | .prim _ | .nils | .sl _ _ _ | .ptr _ _ | .iptr _ | .fn _ _ _ | .map _ | .imap _ => true
  | _ => false

theorem oneAV_rel {M : Mem} {B : List GB} {v : AV} {x : Value} (h1 : oneAV v = true) (h : VRel M B v x) : x.oneCell' = true := by
  cases h <;> simp [oneAV] at h1 <;> first | rfl | skip
  cases x <;> first | rfl | simp at h1

theorem cellsAV_rel {M : Mem} {B : List GB} {v : AV} {cs : List AV} {x : Value} (h1 : cellsAV v = some cs) (h : VRel M B v x) :
    x.cells.size = cs.length ∧ ∀ (i : Nat) (c : AV), cs[i]? = some c → VRel M B c (x.cells.getD i undef) := by
  have one : ∀ (u : AV) (x : Value), x.cells = #[x] → VRel M B u x → x.cells.size = [u].length ∧ ∀ (i : Nat) (c : AV), [u][i]? = some c → VRel M B c (x.cells.getD i undef) := by
    intro u x hx hu
    rw [hx]
    refine ⟨rfl, fun i c hi => ?_⟩
    cases i with
    | zero => simp at hi; subst hi; exact hu
    | succ i => simp at hi
  cases v with
  | agg cs' =>
    simp only [cellsAV, Option.some.injEq] at h1; subst h1
    cases h with
    | agg _ vs hl h => exact ⟨hl, h⟩
  | prim v' =>
    cases h
    cases x <;> simp only [cellsAV, Option.some.injEq, reduceCtorEq] at h1 <;> subst h1 <;> exact one _ _ rfl (.prim _)
  | nils => simp only [cellsAV, Option.some.injEq] at h1; subst h1; cases h; exact one _ _ rfl .nils
  | sl sz es t => simp only [cellsAV, Option.some.injEq] at h1; subst h1; exact one _ _ (by cases h <;> rfl) h
  | ptr l o => simp only [cellsAV, Option.some.injEq] at h1; subst h1; exact one _ _ (by cases h <;> rfl) h
  | iptr cs => simp only [cellsAV, Option.some.injEq] at h1; subst h1; exact one _ _ (by cases h <;> rfl) h
  | fn f a c => simp only [cellsAV, Option.some.injEq] at h1; subst h1; exact one _ _ (by cases h <;> rfl) h
  | map l => simp only [cellsAV, Option.some.injEq] at h1; subst h1; exact one _ _ (by cases h <;> rfl) h
  | imap k => simp only [cellsAV, Option.some.injEq] at h1; subst h1; exact one _ _ (by cases h <;> rfl) h
  | any => simp [cellsAV] at h1
  | tup => simp [cellsAV] at h1
  | when => simp [cellsAV] at h1
  | ext => simp [cellsAV] at h1

theorem mem_lt {M : Mem} {w : World} (h : MemOk M w) : (∀ b, w.heap.size ≤ b → (∀ o, M.cell b o = none) ∧ M.map b = none) := by
  intro b hb
  refine ⟨fun o => ?_, ?_⟩
  · cases hc : M.cell b o with
    | none => rfl
    | some v => have := World.block_lt_of_cell? _ _ (h.1 _ _ _ hc); simp at this; omega
  · cases hc : M.map b with
    | none => rfl
    | some v => obtain ⟨c, h1⟩ := h.2 _ _ hc; simp [Array.getElem?_eq_none hb] at h1

theorem ORel.keep {M : Mem} {B B' : List GB} {w w' : World} {g : GB} {o : AObj} (h : ORel M B w g o) (hB : BLe B B') (hw : ∀ b, g.block = some b → w'.heap[b]? = w.heap[b]?) : ORel M B' w' g o := by
  cases h with
  | var b cs c T fr hb hf hl hr hm => exact .var b cs c T fr ((hw b rfl).trans hb) hf hl (fun i a hi => (hr i a hi).mono (Mem.Le.refl _) hB) hm
  | ownz sz => exact .ownz sz
  | own b cap sz n c T fr hb hf hl hn hm => exact .own b cap sz n c T fr ((hw b rfl).trans hb) hf hl hn hm
  | map b kvs es clock hb hl hk hr hm => exact .map b kvs es clock ((hw b rfl).trans hb) hl hk (fun i k v e a b => (hr i k v e a b).mono (Mem.Le.refl _) hB) hm
  | siter b s pos hb => exact .siter b s pos ((hw b rfl).trans hb)
  | dead => exact .dead _

theorem heap_alloc (w : World) (o : Obj) (k : Nat) : (w.alloc o).heap[k]? = if k = w.heap.size then some o else w.heap[k]? := by
  show (w.heap.push o)[k]? = _
  rw [Array.getElem?_push]

theorem memOk_alloc {M : Mem} {w : World} (h : MemOk M w) (o : Obj) : MemOk M (w.alloc o) := by
  refine ⟨fun b k v hb => ?_, fun b es hb => ?_⟩
  · have h1 := h.1 _ _ _ hb
    have := World.block_lt_of_cell? _ _ h1
    rw [World.cell?_alloc_lt w o _ this]; exact h1
  · obtain ⟨c, h1⟩ := h.2 _ _ hb
    refine ⟨c, ?_⟩
    rw [heap_alloc]
    split
    · rename_i e; subst e; simp at h1
    · exact h1

theorem SRel.alloc {G : Gh} {σ : Store} {w : World} (h : SRel G σ w) {o : Obj} {g : GB} {ao : AObj} (hg : g.block = some w.heap.size) (ho : ORel G.M (G.B ++ [g]) (w.alloc o) g ao) :
    SRel { G with B := G.B ++ [g] } (σ ++ [ao]) (w.alloc o) := by
  refine ⟨memOk_alloc h.memok o, h.m0, ⟨by have := h.base.1; show G.w0.heap.size ≤ _; simp; omega, fun b hb => ?_⟩, by simp [h.len], fun l g' o' h1 h2 => ?_, fun l g' b h1 h2 => ?_, fun l l' g1 g2 b h1 h2 h3 h4 => ?_, h.out⟩
  · have hb' : b < G.w0.heap.size := hb
    rw [heap_alloc, if_neg (by have := h.base.1; omega)]; exact h.base.2 b hb
  · rcases Nat.lt_or_ge l G.B.length with hlt | hge
    · rw [List.getElem?_append_left hlt] at h1
      rw [List.getElem?_append_left (by rw [← h.len]; exact hlt)] at h2
      refine (h.objs l g' o' h1 h2).keep (BLe.append _ _) fun b hb => ?_
      have := (h.fresh l g' b h1 hb).2
      rw [heap_alloc, if_neg (by omega)]
    · rw [List.getElem?_append_right hge] at h1
      rw [List.getElem?_append_right (by rw [← h.len]; exact hge)] at h2
      have hz : l - G.B.length = 0 := by
        rcases Nat.eq_zero_or_pos (l - G.B.length) with hz | hp
        · exact hz
        · rw [List.getElem?_eq_none (by simp; omega)] at h1; simp at h1
      rw [hz] at h1
      rw [← h.len, hz] at h2
      simp at h1 h2
      subst h1; subst h2
      exact ho
  · rcases Nat.lt_or_ge l G.B.length with hlt | hge
    · rw [List.getElem?_append_left hlt] at h1
      have := h.fresh l g' b h1 h2
      exact ⟨this.1, by simp; omega⟩
    · rw [List.getElem?_append_right hge] at h1
      have hz : l - G.B.length = 0 := by
        rcases Nat.eq_zero_or_pos (l - G.B.length) with hz | hp
        · exact hz
        · rw [List.getElem?_eq_none (by simp; omega)] at h1; simp at h1
      rw [hz] at h1
      simp at h1; subst h1
      rw [hg] at h2; simp at h2; subst h2
      exact ⟨h.base.1, by simp⟩
  · have inNew : ∀ (l : Nat) (g' : GB), (G.B ++ [g])[l]? = some g' → G.B.length ≤ l → l = G.B.length ∧ g' = g := by
      intro l g' h1 hge
      rw [List.getElem?_append_right hge] at h1
      have hz : l - G.B.length = 0 := by
        rcases Nat.eq_zero_or_pos (l - G.B.length) with hz | hp
        · exact hz
        · rw [List.getElem?_eq_none (by simp; omega)] at h1; simp at h1
      rw [hz] at h1; simp at h1
      exact ⟨by omega, h1.symm⟩
    rcases Nat.lt_or_ge l G.B.length with hl | hl <;> rcases Nat.lt_or_ge l' G.B.length with hl' | hl'
    · rw [List.getElem?_append_left hl] at h1; rw [List.getElem?_append_left hl'] at h2
      exact h.inj l l' g1 g2 b h1 h2 h3 h4
    · rw [List.getElem?_append_left hl] at h1
      obtain ⟨_, rfl⟩ := inNew l' g2 h2 hl'
      rw [hg] at h4; simp at h4; subst h4
      have := (h.fresh l g1 _ h1 h3).2; omega
    · rw [List.getElem?_append_left hl'] at h2
      obtain ⟨_, rfl⟩ := inNew l g1 h1 hl
      rw [hg] at h3; simp at h3; subst h3
      have := (h.fresh l' g2 _ h2 h4).2; omega
    · rw [(inNew l g1 h1 hl).1, (inNew l' g2 h2 hl').1]

/-- An object of the call's own takes another content, in its place. -/
theorem SRel.upd {G : Gh} {σ : Store} {w w' : World} (h : SRel G σ w) {l b : Nat} {g : GB} {o' : AObj} (hl : G.B[l]? = some g) (hb : g.block = some b) (hsz : w'.heap.size = w.heap.size)
    (hk : ∀ k, k ≠ b → w'.heap[k]? = w.heap[k]?) (ho : ORel G.M G.B w' g o') (hm : (∀ o, G.M.cell b o = none) ∧ G.M.map b = none) (hout : w'.os = w.os ∧ w'.output = w.output) : SRel G (σ.set l o') w' := by
  refine ⟨⟨fun b' k v hc => ?_, fun b' es hc => ?_⟩, h.m0, ⟨by have := h.base.1; omega, fun b' hb' => ?_⟩, by simp [h.len], fun l' g' o2 h1 h2 => ?_, fun l' g' b' h1 h2 => ?_, h.inj, ⟨hout.1.trans h.out.1, hout.2.trans h.out.2⟩⟩
  · have hne : b' ≠ b := fun e => by subst e; rw [hm.1] at hc; simp at hc
    have := h.memok.1 _ _ _ hc
    simp only [World.cell?] at this ⊢
    rw [hk _ hne]; exact this
  · have hne : b' ≠ b := fun e => by subst e; rw [hm.2] at hc; simp at hc
    obtain ⟨c, h1⟩ := h.memok.2 _ _ hc
    exact ⟨c, by rw [hk _ hne]; exact h1⟩
  · have := (h.fresh l g b hl hb).1
    rw [hk b' (by omega)]; exact h.base.2 b' hb'
  · by_cases hll : l = l'
    · subst hll
      have hlt : l < σ.length := by
        rw [← h.len]
        rcases Nat.lt_or_ge l G.B.length with h' | h'
        · exact h'
        · simp [List.getElem?_eq_none h'] at hl
      rw [List.getElem?_set_self hlt] at h2
      simp at h2; subst h2
      rw [hl] at h1; simp at h1; subst h1
      exact ho
    · rw [List.getElem?_set_ne hll] at h2
      refine (h.objs l' g' o2 h1 h2).keep (BLe.refl _) fun b' hb' => hk b' fun e => ?_
      subst e
      exact hll (h.inj l l' g g' b' hl h1 hb hb')
  · have := h.fresh l' g' b' h1 h2
    exact ⟨this.1, by omega⟩

section
variable {P : Program} {n : Nat} {ops : Array Oper} {o : Oper} {env : Env} {σ : Store} {k : Env → Store → Prop}

/-- From the operation alone to a step, where it is not guarded. -/
theorem EStep.plain (hg : o.guard = none)
    (h : ∀ G a w, ARel n G env σ a w → o.wp P a w (fun a' w' => ∃ env' σ' G', k env' σ' ∧ G.Le G' ∧ ARel n G' env' σ' a' w') noQ) : EStep P n ops o k env σ := by
  intro G a w hr
  rw [if_pos (by simp [Region.wanted, hg])]
  exact h G a w hr

theorem ARel.rd {G : Gh} {a : Act} {w : World} {x : Operand} {u : AV} (hr : ARel n G env σ a w) (h : Rd env x u) : VRel G.M G.B u (a.eval x) := by
  apply h
  cases x with
  | tmp t => exact hr.vals t
  | const v => exact ofConst_rel _ _ v
  | global g => exact .any _
  | func f => exact .fn _ _ _ _ _ rfl rfl (fun i c h => by simp at h) (fun i c h => by simp at h)

theorem EStep.box {T : TypeId} {x : Operand} {u : AV} {d : Nat} {cs : List AV} (ho : o.op = .box T x) (hg : o.guard = none) (hd : o.dst = some d) (hdn : d < n) (hx : Rd env x u) (hc : cellsAV u = some cs)
    (hk : k (env.put d (.ptr σ.length 0)) (σ ++ [.var cs])) : EStep P n ops o k env σ := by
  refine EStep.plain hg fun G a w hr => ?_
  have h1 := hr.rd hx
  obtain ⟨h2, h3⟩ := cellsAV_rel hc h1
  have hrun : (execOp a.eval o).run P w = .ok (.value (.pointer (some ⟨w.heap.size, 0, none⟩))) (w.alloc (.cells (a.eval x).cells T)) := by
    simp [execOp, ho, Instr.box, newVar, newRow]
  unfold Oper.wp
  rw [hrun]
  have hs : SRel { G with B := G.B ++ [.blk w.heap.size] } (σ ++ [.var cs]) (w.alloc (.cells (a.eval x).cells T)) := by
    refine hr.st.alloc rfl (.var _ cs _ T (0, 0) ?_ ?_ h2 ?_ ?_)
    · rw [heap_alloc, if_pos rfl]
    · intro o _; simp
    · exact fun i c hi => (h3 i c hi).mono (Mem.Le.refl _) (BLe.append _ _)
    · exact (mem_lt hr.st.memok _ (Nat.le_refl _)).1
  refine ⟨_, _, { G with B := G.B ++ [.blk w.heap.size] }, hk, ⟨rfl, rfl, Mem.Le.refl _, BLe.append _ _⟩, ?_⟩
  rw [hd]
  have hr' : ARel n { G with B := G.B ++ [.blk w.heap.size] } env (σ ++ [.var cs]) a (w.alloc (.cells (a.eval x).cells T)) := ⟨hr.size, hr.defers, fun i => (hr.vals i).mono (Mem.Le.refl _) (BLe.append _ _), hs⟩
  exact hr'.put hdn (.ptr _ _ _ (by simp [← hr.st.len]))

theorem EStep.alloc {T : TypeId} {d : Nat} {li : LI} (ho : o.op = .alloc T) (hg : o.guard = none) (hd : o.dst = some d) (hdn : d < n) (hl : LOk P T li)
    (hk : k (env.put d (.ptr σ.length 0)) (σ ++ [.var (li.zero.map Z.av)])) : EStep P n ops o k env σ := by
  refine EStep.plain hg fun G a w hr => ?_
  have hrun : (execOp a.eval o).run P w = .ok (.value (.pointer (some ⟨w.heap.size, 0, none⟩))) (w.alloc (.cells li.zeroVal.cells T)) := by
    simp [execOp, ho, Instr.alloc, newVar, newRow, hl.run_zero w]
  have hcells : li.zeroVal.cells = (li.zero.map Z.val).toArray := by
    unfold LI.zeroVal
    cases ha : li.lt.isAgg with
    | true => rfl
    | false =>
      obtain ⟨z, hz⟩ := hl.one ha
      rw [hz]
      cases z <;> rfl
  unfold Oper.wp
  rw [hrun]
  have hs : SRel { G with B := G.B ++ [.blk w.heap.size] } (σ ++ [.var (li.zero.map Z.av)]) (w.alloc (.cells li.zeroVal.cells T)) := by
    refine hr.st.alloc rfl (.var _ _ li.zeroVal.cells T (0, 0) ?_ ?_ (by simp [hcells]) ?_ ?_)
    · rw [heap_alloc, if_pos rfl]
    · intro o _; simp
    · intro i c hi
      simp only [List.getElem?_map, Option.map_eq_some_iff] at hi
      obtain ⟨z, hz, rfl⟩ := hi
      rw [hcells]
      simp only [Array.getD_eq_getD_getElem?, List.getElem?_toArray, List.getElem?_map, hz, Option.map_some, Option.getD_some]
      cases z <;> first | exact .prim _ | exact .nils | exact .imapz
    · exact (mem_lt hr.st.memok _ (Nat.le_refl _)).1
  refine ⟨_, _, { G with B := G.B ++ [.blk w.heap.size] }, hk, ⟨rfl, rfl, Mem.Le.refl _, BLe.append _ _⟩, ?_⟩
  rw [hd]
  have hr' : ARel n { G with B := G.B ++ [.blk w.heap.size] } env (σ ++ [.var (li.zero.map Z.av)]) a (w.alloc (.cells li.zeroVal.cells T)) := ⟨hr.size, hr.defers, fun i => (hr.vals i).mono (Mem.Le.refl _) (BLe.append _ _), hs⟩
  exact hr'.put hdn (.ptr _ _ _ (by simp [← hr.st.len]))

/-- Cells stored one after the other into one block. -/
theorem run_storeCells {b off : Nat} {T : TypeId} {fr : Nat × Nat} : ∀ (vs : List Value) (i : Nat) (c : Array Value) (w : World), w.heap[b]? = some (.cells c T fr) → Free fr c.size → (∀ v ∈ vs, v.oneCell' = true) →
    off + i + vs.length ≤ c.size → ∃ w' c', (storeCells ⟨b, off, none⟩ vs i).run P w = .ok () w' ∧ w'.heap.size = w.heap.size ∧ (∀ k, k ≠ b → w'.heap[k]? = w.heap[k]?) ∧ w'.heap[b]? = some (.cells c' T fr) ∧
      c'.size = c.size ∧ (∀ j, c'.getD j undef = if off + i ≤ j ∧ j < off + i + vs.length then vs.getD (j - (off + i)) undef else c.getD j undef) ∧ (w'.os = w.os ∧ w'.output = w.output)
  | [], i, c, w, hb, _, _, _ => ⟨w, c, rfl, rfl, fun _ _ => rfl, hb, rfl, fun j => by rw [if_neg (by simp only [List.length_nil]; omega)], ⟨rfl, rfl⟩⟩
  | v :: vs, i, c, w, hb, hf, hv, hle => by
    simp only [List.length_cons] at hle
    have hlt : off + i < c.size := by omega
    have hcell : w.cell? ⟨b, off + i, none⟩ = some c[off + i] := by simp [World.cell?, hb, hlt]
    have hfz : w.frozen? ⟨b, off + i, none⟩ = false := by
      have := hf (off + i) hlt
      simp only [World.frozen?, hb]
      simpa using this
    have hset : (w.setCell ⟨b, off + i, none⟩ v).heap[b]? = some (.cells (c.setIfInBounds (off + i) v) T fr) := by
      simp [World.setCell, Array.getElem?_modify, hb]
    obtain ⟨w', c', h1, h2, h3, h4, h5, h6, ho⟩ := run_storeCells (b := b) (off := off) (T := T) (fr := fr) vs (i + 1) (c.setIfInBounds (off + i) v) (w.setCell ⟨b, off + i, none⟩ v) hset (by simpa using hf) (fun v hv' => hv v (List.mem_cons_of_mem _ hv')) (by rw [Array.size_setIfInBounds]; omega)
    refine ⟨w', c', ?_, by simpa using h2, fun k hk => ?_, h4, by simpa using h5, fun j => ?_, ho⟩
    · simp only [storeCells, Sem.run_bind, addr_add]
      rw [run_store P w _ v _ (hv v (List.mem_cons_self ..)), hcell]
      simp only [hfz, Bool.false_eq_true, if_false, Result.andThen_ok]
      exact h1
    · rw [h3 k hk]
      simp [World.setCell, Array.getElem?_modify, Ne.symm hk]
    · rw [h6 j]
      by_cases h7 : j = off + i
      · subst h7
        rw [if_neg (by omega), if_pos (by simp)]
        simp [hlt]
      · by_cases h8 : off + (i + 1) ≤ j ∧ j < off + (i + 1) + vs.length
        · rw [if_pos h8, if_pos (by simp; omega)]
          have : j - (off + i) = (j - (off + (i + 1))) + 1 := by omega
          rw [this]; rfl
        · rw [if_neg h8, if_neg (by simp; omega)]
          simp only [Array.getD_eq_getD_getElem?]
          rw [Array.getElem?_setIfInBounds_ne (Ne.symm h7)]

def splice {α : Type} (cs : List α) (off : Nat) (us : List α) : List α := cs.take off ++ us ++ cs.drop (off + us.length)

theorem EStep.store {T : TypeId} {x y : Operand} {l off : Nat} {u : AV} {cs us : List AV} {li : LI} (ho : o.op = .store T x y) (hg : o.guard = none) (hx : Rd env x (.ptr l off)) (hσ : σ[l]? = some (.var cs))
    (hy : Rd env y u) (hc : cellsAV u = some us) (hone : us.all oneAV = true) (hl : LOk P T li) (hsz : li.size = us.length) (hle : off + us.length ≤ cs.length) (hdn : dstOk n o = true)
    (hk : k (env.putO o.dst .any) (σ.set l (.var (splice cs off us)))) : EStep P n ops o k env σ := by
  refine EStep.plain hg fun G a w hr => ?_
  have h1 := hr.rd hx
  generalize hA : a.eval x = X at h1
  cases h1 with
  | ptr _ _ b hb =>
    have h2 := hr.rd hy
    obtain ⟨h3, h4⟩ := cellsAV_rel hc h2
    have hobj := hr.st.objs l _ _ hb hσ
    cases hobj with
    | var _ _ c T' fr hbb hf hlen hrel hm =>
      obtain ⟨w', c', r1, r2, r3, r4, r5, r6, rout⟩ := run_storeCells (P := P) (b := b) (off := off) (T := T') (fr := fr) (a.eval y).cells.toList 0 c w hbb hf (fun v hv => by
        obtain ⟨i, hi, rfl⟩ := List.mem_iff_getElem.1 hv
        have hi' : i < us.length := by simpa [h3] using hi
        have := h4 i us[i] (List.getElem?_eq_getElem hi')
        have h5 := List.all_eq_true.1 hone us[i] (List.getElem_mem hi')
        have h6 := oneAV_rel h5 this
        have hi2 : i < (a.eval y).cells.size := by omega
        simpa [hi2] using h6) (by simp; omega)
      have hrun : (execOp a.eval o).run P w = .ok .skip w' := by
        simp only [execOp, ho, hA, Instr.storeAt, Instr.sureAddr, storeVar]
        simp [hl.run_size w, h3, hsz, r1]
      unfold Oper.wp
      rw [hrun]
      have hmm : G.M.map b = none := by
        cases hq : G.M.map b with
        | none => rfl
        | some es => obtain ⟨cl, h5⟩ := hr.st.memok.2 _ _ hq; rw [hbb] at h5; simp at h5
      have hs : SRel G (σ.set l (.var (splice cs off us))) w' := by
        refine hr.st.upd hb rfl r2 r3 (.var b _ c' T' fr r4 (by rw [r5]; exact hf) (by simp [splice, r5, hlen]; omega) (fun i av hi => ?_) hm) ⟨hm, hmm⟩ rout
        rw [r6 i]
        simp only [Nat.add_zero, Array.length_toList]
        unfold splice at hi
        rcases Nat.lt_or_ge i off with h5 | h5
        · rw [if_neg (by omega)]
          rw [List.append_assoc, List.getElem?_append_left (by simp; omega), List.getElem?_take, if_pos h5] at hi
          exact hrel i av hi
        · rcases Nat.lt_or_ge i (off + us.length) with h6 | h6
          · rw [if_pos ⟨h5, by omega⟩]
            rw [List.append_assoc, List.getElem?_append_right (by simp; omega), List.getElem?_append_left (by simp; omega)] at hi
            have e : i - (cs.take off).length = i - off := by simp; omega
            rw [e] at hi
            have := h4 _ _ hi
            simpa using this
          · rw [if_neg (by omega)]
            rw [List.getElem?_append_right (by simp; omega)] at hi
            have e : (cs.drop (off + us.length))[i - (cs.take off ++ us).length]? = cs[i]? := by
              rw [List.getElem?_drop]; congr 1; simp; omega
            rw [e] at hi
            exact hrel i av hi
      have hr' : ARel n G env (σ.set l (.var (splice cs off us))) a w' := ⟨hr.size, hr.defers, hr.vals, hs⟩
      exact ⟨_, _, G, hk, Gh.Le.refl G, hr'.putO (dstOk_spec hdn) (.any _)⟩
end
end Go.Ab
