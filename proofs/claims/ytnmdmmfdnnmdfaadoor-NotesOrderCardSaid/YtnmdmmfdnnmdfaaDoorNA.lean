/- Growing arrays whose elements change: a nil slice, append, a store into a part of an element. No statement is proved here. -/
import Derived.Test.YtnmdmmfdnnmdfaaDoorM6
set_option linter.unusedVariables false
set_option linter.unusedSimpArgs false
namespace Go.Ab
section
variable {P : Program} {n : Nat} {ops : Array Oper} {o : Oper} {env : Env} {σ : Store} {T : Tab} {k : Env → Store → Prop}

/-- A nil slice from now on is that of an own array whose elements may change. -/
theorem AWP.arrNil {c : Code} {K : Exit → Env → Store → Prop} {d : Nat} (sz : Nat) (hd : env d = .nils) (hk : AWP P n c K (env.put d (.sl sz [] (.own σ.length))) (σ ++ [.arr sz 0 []])) : AWP P n c K env σ := by
  intro G a w hr
  have hl : (G.B ++ [GB.own none 0 0])[σ.length]? = some (.own none 0 0) := by rw [← hr.st.len]; simp
  have hs0 := hr.st.ownNil sz
  have hs : SRel { G with B := G.B ++ [.own none 0 0] } (σ ++ [.arr sz 0 []]) w := by
    have := SRel.retell (l := σ.length) (o := .own sz 0) (o' := .arr sz 0 []) hs0 (by simp) (fun g hg _ => by
      rw [hl] at hg; simp at hg; subst hg; exact .arrz sz 0)
    simpa using this
  have hr' : ARel n { G with B := G.B ++ [.own none 0 0] } (env.put d (.sl sz [] (.own σ.length))) (σ ++ [.arr sz 0 []]) a w := by
    refine ⟨hr.size, hr.defers, fun i => ?_, hs⟩
    simp only [Env.put]
    split
    · rename_i e; subst e
      have h2 := hr.vals i
      rw [hd] at h2
      generalize a.tmps.getD i undef = X at h2 ⊢
      cases h2
      exact .slz sz _ ⟨none, 0, 0, hl, Nat.le_refl _, fun _ => ⟨rfl, rfl⟩⟩
    · exact (hr.vals i).mono (Mem.Le.refl _) (BLe.append _ _)
  refine wpIn_mono (hk { G with B := G.B ++ [.own none 0 0] } a w hr') ?_
  rintro x a' w' ⟨e', s', G', h1, h2, h3⟩
  exact ⟨e', s', G', h1, Gh.Le.trans (G' := { G with B := G.B ++ [.own none 0 0] }) (.upB (BLe.append _ _)) h2, h3⟩

/-- append to an own array whose elements may change. -/
theorem EStep.appendArr (hT : T.Ok P) {s x : Operand} {t tx e : TypeId} {d l sz ver : Nat} {es es2 : List (List AV)} {u S : AV} {s1 b1 : Nat} {z : List Z} {le : LI} (ho : o.op = .call { callee := .builtin .append, args := #[s, x], argTypes := #[t, tx] })
    (hg : o.guard = none) (hd : o.dst = some d) (hdn : d < n) (hs : Rd env s S) (hS0 : S = .sla l sz 0 es.length ver ∧ es ≠ [] ∨ S = .sl sz [] (.own l) ∧ es = [] ∧ ver = 0) (hσ : σ[l]? = some (.arr sz ver es)) (hx : Rd env x u) (hsrc : AppSrc T tx sz u es2) (hpos : 0 < es2.length)
    (hl : LOk P t ⟨.slice e, s1, b1, z⟩) (he : LOk P e le) (hsz : le.size = sz) (hz0 : le.zero.length = le.size) (hbound : (es.length + es2.length) * le.bytes ≤ 140737488355328) (hb2 : es.length + es2.length ≤ 9223372036854775807)
    (hk : k (env.put d (.sla l sz 0 (es.length + es2.length) (ver + 1))) (σ.set l (.arr sz (ver + 1) (es ++ es2)))) : EStep P n ops o k env σ := by
  refine EStep.plain hg fun G a w hr => ?_
  have h1 := hr.rd hs
  obtain ⟨news, hS, hN⟩ := hsrc.src hT hr.st.memok (hr.rd hx)
  generalize hA : a.eval s = sv at h1
  obtain ⟨i, hi1, hi2, hi3, hi4⟩ := he.info
  have hund := hl.undSlice
  have hS' : Src P i.size tx (a.eval x) es2.length news w := by rw [hi2, hsz]; exact hS
  have hNs : news.length = es2.length * sz := by have := hN.1; simpa using this
  obtain ⟨ob, cap, hB, hne, hob⟩ := arr_at hr.st hσ
  have hobj := hr.st.objs l _ _ hB hσ
  have hsv : sv = .slice (ob.map fun b => ⟨b, 0, none⟩) es.length cap := by
    rcases hS0 with ⟨rfl, hn⟩ | ⟨rfl, rfl, rfl⟩
    · cases h1 with
      | sla _ _ _ _ _ a c hr =>
        obtain ⟨ob', cap', n', g1, g2, g3⟩ := hr
        rw [hB] at g1; simp at g1
        obtain ⟨rfl, rfl, rfl⟩ := g1
        obtain ⟨g4, g5⟩ := g3 rfl
        rcases g5 with g5 | ⟨rfl, rfl⟩
        · exact absurd (List.eq_nil_of_length_eq_zero g5) hn
        · simp
    · cases h1 with
      | sl _ _ _ b off cap' f hz hm hr' hc ht =>
        obtain ⟨ob', cp, n', g1, g2, g3⟩ := ht
        rw [hB] at g1; simp at g1
        obtain ⟨rfl, rfl, rfl⟩ := g1
        obtain ⟨g4, g5⟩ := g3 rfl
        cases ob with
        | none => simp at g4
        | some b' =>
          simp at g4
          obtain ⟨rfl, rfl⟩ := g4
          subst g5; rfl
      | slz _ _ ht =>
        obtain ⟨ob', cp, n', g1, g2, g3⟩ := ht
        rw [hB] at g1; simp at g1
        obtain ⟨rfl, rfl, rfl⟩ := g1
        obtain ⟨g4, g5⟩ := g3 rfl
        cases ob with
        | none => subst g5; rfl
        | some b' => simp at g4
  subst hsv
  have hgle : ∀ b' c', (GB.own ob cap ver).Le (.own b' c' (ver + 1)) := fun b' c' => .inr ⟨_, _, _, rfl, Nat.lt_succ_self _⟩
  have hlB : l < G.B.length := by
    rcases Nat.lt_or_ge l G.B.length with h' | h'
    · exact h'
    · simp [List.getElem?_eq_none h'] at hB
  have hzc : le.zeroVal.cells.size = sz := by
    unfold LI.zeroVal
    cases ha : le.lt.isAgg with
    | true => simp [Value.cells, hz0, hsz]
    | false =>
      obtain ⟨z', hz'⟩ := he.one ha
      rw [hz'] at hz0 ⊢
      simp at hz0
      rw [← hsz, ← hz0]
      cases z' <;> rfl
  -- the end: the new place
  have fin : ∀ (b c' : Nat) (w' : World), SRel { G with B := G.B.set l (.own (some b) c' (ver + 1)) } (σ.set l (.arr sz (ver + 1) (es ++ es2))) w' → es.length + es2.length ≤ c' →
      ∃ env' σ' G', k env' σ' ∧ G.Le G' ∧ ARel n G' env' σ' (a.put o.dst (.slice (some ⟨b, 0, none⟩) (es.length + es2.length) c')) w' := fun b c' w' hs2 hle => by
    have hG : G.Le { G with B := G.B.set l (.own (some b) c' (ver + 1)) } := .upB (BLe.set hB (hgle _ _))
    refine ⟨_, _, _, hk, hG, ?_⟩
    rw [hd]
    have hr' : ARel n { G with B := G.B.set l (.own (some b) c' (ver + 1)) } env (σ.set l (.arr sz (ver + 1) (es ++ es2))) a w' := hr.later hG hs2
    exact hr'.put hdn (.sla _ sz 0 _ (ver + 1) _ _ ⟨some b, c', ver + 1, by rw [List.getElem?_set_self hlB], Nat.le_refl _, fun _ => ⟨by omega, .inr ⟨by omega, by simp⟩⟩⟩)
  have hzall : ∀ b, ob = some b → ∀ x ∈ es ++ es2, x.length = sz := fun b hb x hx => by
    obtain ⟨c, T', fr, _, _, _, _, hz, _, _⟩ := hob b hb
    exact (List.mem_append.1 hx).elim (hz x) (hN.2.1 x)
  by_cases hroom : es.length + es2.length ≤ cap
  · cases ob with
    | none =>
      exfalso
      cases hobj with
      | arrz => simp only [List.length_nil] at hroom; omega
    | some b =>
      obtain ⟨c, T', fr, hb, hf, hlc, hn, hz, hrel, hm⟩ := hob b rfl
      have hcs : (es.length + es2.length) * sz ≤ c.size := by rw [hlc]; exact Nat.mul_le_mul_right _ hroom
      rw [Nat.add_mul] at hcs
      obtain ⟨w', c', r1, r2, r3, r4, r5, r6, rout⟩ := run_storeCells (P := P) (b := b) (off := es.length * sz) (T := T') (fr := fr) news 0 c w hb hf hS.one (by omega)
      have hrun := run_append_room' (P := P) w w' t tx o.type e i hund hi1 b 0 es.length cap (a.eval x) es2.length news hS' hroom (by rw [hi2, hsz, Nat.zero_add]; exact r1)
      have hrun2 : (execOp a.eval o).run P w = .ok (.value (.slice (some ⟨b, 0, none⟩) (es.length + es2.length) cap)) w' := by simp [execOp, ho, resolve, invoke, builtin, hA, hrun]
      unfold OWP
      rw [hrun2]
      simp only [Nat.add_zero] at r6
      have hmapb : G.M.map b = none := mem_of_notmap hr.st.memok hb (by intros; simp)
      have hok : MemOk G.M w' := by
        refine ⟨fun b2 o v hv => ?_, fun b2 es' hb2' => ?_, hr.st.memok.g⟩
        · have hne2 : b2 ≠ b := fun e2 => by subst e2; rw [hm o] at hv; cases hv
          have h2 := hr.st.memok.1 _ _ _ hv
          simp only [World.cell?] at h2 ⊢
          rw [r3 _ hne2]; exact h2
        · have hne2 : b2 ≠ b := fun e2 => by subst e2; rw [hmapb] at hb2'; cases hb2'
          obtain ⟨cl, h2⟩ := hr.st.memok.2 _ _ hb2'
          exact ⟨cl, by rw [r3 _ hne2]; exact h2⟩
      have hblt := (hr.st.fresh l _ b hB rfl).2
      refine fin b cap w' ?_ hroom
      refine hr.st.regrow (M' := G.M) hB (Mem.Le.refl _) (hgle _ _) rfl (by omega) (fun k hk _ => r3 k hk) rfl (fun _ _ _ => rfl) hok (.inl rfl) (by omega) rout ?_
      refine .arr b cap sz (ver + 1) (es ++ es2) c' T' fr r4 (by rw [r5]; exact hf) (by rw [r5, hlc]) (by simpa using hroom) (hzall b rfl) (fun i j x v hi hj => ?_) hm
      have hxl : x.length = sz := hzall b rfl x (List.mem_of_getElem? hi)
      have hjs : j < sz := by
        have := (List.getElem?_eq_some_iff.1 hj).1
        omega
      rw [r6]
      rcases Nat.lt_or_ge i es.length with h | h
      · rw [List.getElem?_append_left h] at hi
        rw [if_neg (by have := mul_lt h hjs; omega)]
        exact (hrel i j x v hi hj).mono (Mem.Le.refl _) (BLe.set hB (hgle _ _))
      · rw [List.getElem?_append_right h] at hi
        have hi2' : i - es.length < es2.length := (List.getElem?_eq_some_iff.1 hi).1
        have e1 : i * sz + j = es.length * sz + ((i - es.length) * sz + j) := by
          rw [← Nat.add_assoc, ← Nat.add_mul]; congr 2; omega
        have hlt := mul_lt hi2' hjs
        rw [e1, if_pos ⟨by omega, by rw [hNs]; omega⟩, Nat.add_sub_cancel_left]
        have := hN.2.2 _ j x v hi hj
        have e2 : news.toArray.getD ((i - es.length) * sz + j) undef = news.getD ((i - es.length) * sz + j) undef := by simp [List.getD]
        rw [e2] at this
        exact this.mono (Mem.Le.refl _) (BLe.nil _)
  · -- a new row
    have holds : ∃ olds : List Value, olds.length = es.length * sz ∧ (Builtin.firstCells i.size es.length (.slice (ob.map fun b => ⟨b, 0, none⟩) es.length cap)).run P w.drew = .ok olds.toArray w.drew ∧
        (∀ x ∈ es, x.length = sz) ∧ ∀ (i j : Nat) (x : List AV) (v : AV), es[i]? = some x → x[j]? = some v → VRel G.M G.B v (olds.getD (i * sz + j) undef) := by
      cases ob with
      | none =>
        have : es = [] := by
          rcases es with _ | ⟨x, es⟩
          · rfl
          · obtain ⟨b, hb⟩ := hne (by simp); cases hb
        subst this
        exact ⟨[], by simp, rfl, by simp, fun i j x v h => by simp at h⟩
      | some b =>
        obtain ⟨c, T', fr, hb, hf, hlc, hn, hz, hrel, hm⟩ := hob b rfl
        have hcs : es.length * sz ≤ c.size := by rw [hlc]; exact Nat.mul_le_mul_right _ hn
        refine ⟨(List.range (es.length * sz)).map fun k => c.getD k undef, by simp, ?_, hz, fun i j x v hi hj => ?_⟩
        · have := run_loadCells_list (P := P) w.drew ⟨b, 0, none⟩ ((List.range (es.length * sz)).map fun k => c.getD k undef) (fun j v hj => by
            simp only [List.getElem?_map, Option.map_eq_some_iff] at hj
            obtain ⟨k, hk, rfl⟩ := hj
            have hj2 := (List.getElem?_eq_some_iff.1 hk).1
            simp at hj2
            have hk2 : k = j := by have := (List.getElem?_eq_some_iff.1 hk).2; simpa using this.symm
            subst hk2
            have h3 : k < c.size := by omega
            show (World.cell? w.drew _) = _
            have hb' : w.drew.heap[b]? = some (.cells c T' fr) := hb
            simp [World.cell?, addr_add, hb', h3])
          simp only [List.length_map, List.length_range] at this
          simp only [Option.map, Builtin.firstCells, hi2, hsz]
          exact this
        · have := hrel i j x v hi hj
          have hxl := hz x (List.mem_of_getElem? hi)
          have hjs : j < sz := by
            have := (List.getElem?_eq_some_iff.1 hj).1
            omega
          have hlt := mul_lt (List.getElem?_eq_some_iff.1 hi).1 hjs
          have e2 : ((List.range (es.length * sz)).map fun k => c.getD k undef).getD (i * sz + j) undef = c.getD (i * sz + j) undef := by
            simp [List.getD, hlt]
          rw [e2]; exact this
    obtain ⟨olds, hOs, hold, hz, hrel⟩ := holds
    have hlt : cap < es.length + es2.length := by omega
    have hrun := run_append_grow_src (P := P) w t tx o.type e i le.zeroVal hund hi1 (by rw [hi4]; rfl) (ob.map fun b => ⟨b, 0, none⟩) es.length cap olds hold (a.eval x) es2.length news hS' hlt (by omega) (growslice_fits hlt (by rw [hi3]; exact hbound))
    have hcapge : es.length + es2.length ≤ grownCap w (es.length + es2.length) cap e := by unfold grownCap Question.cut; exact Nat.le_add_right _ _
    generalize hrow : ((olds ++ news).toArray ++ Builtin.zeroCells le.zeroVal.cells (grownCap w (es.length + es2.length) cap e - (es.length + es2.length))) = row at hrun
    have hrowsz : row.size = grownCap w (es.length + es2.length) cap e * sz := by
      rw [← hrow]
      simp only [Array.size_append, List.size_toArray, List.length_append, size_zeroCells, hzc, hOs, hNs, ← Nat.add_mul]
      congr 1; omega
    have hrun2 : (execOp a.eval o).run P w = .ok (.value (.slice (some ⟨w.heap.size, 0, none⟩) (es.length + es2.length) (grownCap w (es.length + es2.length) cap e))) (w.drew.alloc (.cells row e)) := by
      simp [execOp, ho, resolve, invoke, builtin, hA, hrun]
    unfold OWP
    rw [hrun2]
    have row1 : ∀ o, o < es.length * sz → row.getD o undef = olds.getD o undef := by
      intro o ho
      rw [← hrow]
      simp only [Array.getD_eq_getD_getElem?, List.append_toArray]
      rw [Array.getElem?_append_left (by simp; omega)]
      simp only [List.getElem?_toArray]
      rw [List.getElem?_append_left (by omega)]; simp [List.getD]
    have row2 : ∀ o, o < es2.length * sz → row.getD (es.length * sz + o) undef = news.toArray.getD o undef := by
      intro o ho
      rw [← hrow]
      simp only [Array.getD_eq_getD_getElem?, List.append_toArray]
      rw [Array.getElem?_append_left (by simp; omega)]
      simp only [List.getElem?_toArray]
      rw [List.getElem?_append_right (by omega), hOs, Nat.add_sub_cancel_left]
    have hm0 := mem_lt hr.st.memok _ (Nat.le_refl w.heap.size)
    have hheap : (w.drew.alloc (.cells row e)).heap[w.heap.size]? = some (.cells row e) := by rw [heap_alloc]; simp
    have hok : MemOk G.M (w.drew.alloc (.cells row e)) := by
      refine ⟨fun b o v hv => ?_, fun b es' hb => ?_, hr.st.memok.g⟩
      · have h2 := hr.st.memok.1 _ _ _ hv
        have hlt2 := World.block_lt_of_cell? _ _ h2
        have : (w.drew.alloc (.cells row e)).cell? ⟨b, o, none⟩ = w.drew.cell? ⟨b, o, none⟩ := World.cell?_alloc_lt _ _ _ hlt2
        rw [this]; exact h2
      · obtain ⟨cl, h2⟩ := hr.st.memok.2 _ _ hb
        refine ⟨cl, ?_⟩
        rw [heap_alloc]
        split
        · rename_i eb; subst eb; simp at h2
        · exact h2
    refine fin w.heap.size _ _ ?_ hcapge
    refine hr.st.regrow (M' := G.M) hB (Mem.Le.refl _) (hgle _ _) rfl (by simp) (fun k hk hk2 => by rw [heap_alloc]; simp [Nat.ne_of_lt hk2]; rfl) rfl (fun _ _ _ => rfl) hok (.inr (Nat.le_refl _)) (by simp) OutR.r ?_
    refine .arr w.heap.size _ sz (ver + 1) (es ++ es2) row e (0, 0) hheap (by intro o _; simp) hrowsz (by simpa using hcapge) (fun x hx => (List.mem_append.1 hx).elim (hz x) (hN.2.1 x)) (fun i j x v hi hj => ?_) hm0.1
    have hxl : x.length = sz := (List.mem_append.1 (List.mem_of_getElem? hi)).elim (hz x) (hN.2.1 x)
    have hjs : j < sz := by
      have := (List.getElem?_eq_some_iff.1 hj).1
      omega
    rcases Nat.lt_or_ge i es.length with h | h
    · rw [List.getElem?_append_left h] at hi
      rw [row1 _ (mul_lt h hjs)]
      exact (hrel i j x v hi hj).mono (Mem.Le.refl _) (BLe.set hB (hgle _ _))
    · rw [List.getElem?_append_right h] at hi
      have hi2' : i - es.length < es2.length := (List.getElem?_eq_some_iff.1 hi).1
      have e1 : i * sz + j = es.length * sz + ((i - es.length) * sz + j) := by
        rw [← Nat.add_assoc, ← Nat.add_mul]; congr 2; omega
      rw [e1, row2 _ (mul_lt hi2' hjs)]
      exact (hN.2.2 _ j x v hi hj).mono (Mem.Le.refl _) (BLe.nil _)

/-- A place in an element that is an array. -/
theorem PRun.indexEA (hT : T.Ok P) {t e : TypeId} {x y : Operand} {m l sz i off ver s1 b1 : Nat} {z : List Z} {kd : IntKind} {j : Int} {le : LI} (ho : o.op = .indexAddr t x y) (hx : rdv env x = some (.eptr l sz i off ver)) (nx : rdn env x)
    (hy : rdv env y = some (.prim (.int kd j))) (ny : rdn env y) (hl : T.get t = some ⟨.arr m e, s1, b1, z⟩) (he : T.get e = some le) (h : 0 ≤ j ∧ j < m) (hlt : off + j.toNat * le.size < sz) : PRun P o env σ (.eptr l sz i (off + j.toNat * le.size) ver) :=
  .of fun G A w hs hv => by
    have hX := rd (Rd.w hx nx) (by simp [ho, Op.operands]) hv
    have hY := VRel.prim_eq (rd (Rd.w hy ny) (by simp [ho, Op.operands]) hv)
    generalize hA : A.eval x = v at hX
    cases hX with
    | eptr _ _ _ _ _ b q hr =>
      obtain ⟨ob, cap, n', g1, g2, g3⟩ := hr
      refine ⟨.pointer (some ⟨b, q + j.toNat * le.size, none⟩), ?_, .eptr l sz i _ ver b _ ⟨ob, cap, n', g1, g2, fun e => ?_⟩⟩
      · simp only [execOp, ho, hA, hY, Instr.indexAt, asIntOf]
        obtain ⟨j, rfl⟩ := Int.eq_ofNat_of_zero_le h.1
        have hj : j < m := by omega
        simp [(LOk.of (hT.get hl)).arr w, (LOk.of (hT.get he)).run_size w, Instr.sureAddr, hj, addr_add]
      · obtain ⟨k1, k2, k3, k4⟩ := g3 e
        exact ⟨k1, hlt, by omega, k4⟩

/-- One cell of an element is stored. -/
theorem EStep.storeEO (hT : T.Ok P) {t : TypeId} {x y : Operand} {l sz i off ver : Nat} {es : List (List AV)} {u u1 : AV} {li : LI} (ho : o.op = .store t x y) (hg : o.guard = none) (hx : rdv env x = some (.eptr l sz i off ver)) (nx : rdn env x)
    (hσ : σ[l]? = some (.arr sz ver es)) (hi : i < es.length) (hy : rdv env y = some u) (ny : rdn env y) (hc : cellsAV u = some [u1]) (hone : oneAV u1 = true) (hl : T.get t = some li) (hsz : li.size = 1) (hoff : off < sz) (hdn : dstOk n o = true)
    (hk : k (env.putO o.dst .any) (σ.set l (.arr sz ver (es.set i ((es.getD i []).set off u1))))) : EStep P n ops o k env σ := by
  refine EStep.plain hg fun G a w hr => ?_
  have h1 := hr.rd (Rd.w hx nx)
  generalize hA : a.eval x = X at h1
  obtain ⟨ob, cap, hB, hne, hob⟩ := arr_at hr.st hσ
  cases h1 with
  | eptr _ _ _ _ _ b q hrr =>
    obtain ⟨ob', cap', n', g1, g2, g3⟩ := hrr
    rw [hB] at g1; simp at g1
    obtain ⟨rfl, rfl, rfl⟩ := g1
    obtain ⟨g4, g5, rfl, rfl⟩ := g3 rfl
    obtain ⟨c, T', fr, hbb, hf, hlen, hn, hz, hrel, hm⟩ := hob b rfl
    have hlk := LOk.of (hT.get hl)
    have h2 := hr.rd (Rd.w hy ny)
    obtain ⟨h3, h4⟩ := cellsAV_rel hc h2
    simp at h3
    have hcap : i < cap := by omega
    have hfit : i * sz + off + 1 ≤ c.size := by
      rw [hlen]
      have := mul_lt hcap hoff
      omega
    obtain ⟨w', c', r1, r2, r3, r4, r5, r6, rout⟩ := run_storeCells (P := P) (b := b) (off := i * sz + off) (T := T') (fr := fr) (a.eval y).cells.toList 0 c w hbb hf (fun v hv => by
      obtain ⟨i, hi, rfl⟩ := List.mem_iff_getElem.1 hv
      have hi' : i = 0 := by simp [h3] at hi; omega
      subst hi'
      have := h4 0 u1 rfl
      have h6 := oneAV_rel hone this
      have hi2 : 0 < (a.eval y).cells.size := by omega
      simpa [hi2] using h6) (by simp only [Array.length_toList, h3]; omega)
    have hrun : (execOp a.eval o).run P w = .ok .skip w' := by
      simp only [execOp, ho, hA, Instr.storeAt, Instr.sureAddr, storeVar]
      simp [hlk.run_size w, h3, hsz, r1]
    unfold OWP
    rw [hrun]
    have hmm : G.M.map b = none := mem_of_notmap hr.st.memok hbb (by simp)
    have hei : es[i]? = some (es.getD i []) := by simp [List.getD, hi]
    have hs : SRel G (σ.set l (.arr sz ver (es.set i ((es.getD i []).set off u1)))) w' := by
      refine hr.st.upd hB rfl r2 r3 (.arr b cap sz ver _ c' T' fr r4 (by rw [r5]; exact hf) (by rw [r5]; exact hlen) (by simpa using hn) (fun e he => ?_) (fun i' j e av he hj => ?_) hm) ⟨hm, hmm⟩ rout
      · rcases List.mem_or_eq_of_mem_set he with h | h
        · exact hz e h
        · rw [h, List.length_set]; exact hz _ (List.mem_of_getElem? hei)
      · have hjs : j < sz := by
          have hle : e.length = sz := by
            rcases List.mem_or_eq_of_mem_set (List.mem_of_getElem? he) with h | h
            · exact hz e h
            · rw [h, List.length_set]; exact hz _ (List.mem_of_getElem? hei)
          have := (List.getElem?_eq_some_iff.1 hj).1
          omega
        rw [r6 (i' * sz + j)]
        simp only [Nat.add_zero, Array.length_toList, h3]
        by_cases hii : i = i'
        · subst hii
          rw [List.getElem?_set_self hi] at he
          simp at he; subst he
          by_cases hjo : off = j
          · subst hjo
            rw [List.getElem?_set_self (by have := hz _ (List.mem_of_getElem? hei); simp only [List.getD_eq_getElem?_getD] at this; omega)] at hj
            simp at hj; subst hj
            rw [if_pos ⟨by omega, by omega⟩]
            have := h4 0 _ rfl
            simpa using this
          · rw [List.getElem?_set_ne hjo] at hj
            rw [if_neg (by omega)]
            exact hrel i j _ av hei hj
        · rw [List.getElem?_set_ne hii] at he
          have hno : ¬ (i * sz + off ≤ i' * sz + j ∧ i' * sz + j < i * sz + off + 1) := by
            rintro ⟨q1, q2⟩
            rcases Nat.lt_or_ge i i' with h | h
            · have := Nat.mul_le_mul_right sz (show i + 1 ≤ i' from h)
              rw [Nat.add_mul, Nat.one_mul] at this; omega
            · have := Nat.mul_le_mul_right sz (show i' + 1 ≤ i by omega)
              rw [Nat.add_mul, Nat.one_mul] at this; omega
          rw [if_neg hno]
          exact hrel i' j e av he hj
    have hr' : ARel n G env (σ.set l (.arr sz ver (es.set i ((es.getD i []).set off u1)))) a w' := ⟨hr.size, hr.defers, hr.vals, hs⟩
    exact ⟨_, _, G, hk, Gh.Le.refl G, hr'.putO (dstOk_spec hdn) (.any _)⟩
/-- x[lo:] of an own array's slice. -/
theorem PRun.sliceLoS (hT : T.Ok P) {t : TypeId} {x y : Operand} {l sz off len ver : Nat} {es : List (List AV)} {kd : IntKind} {i : Int} (ho : o.op = .slice t x (some y) none none) (hx : rdv env x = some (.sla l sz off len ver)) (nx : rdn env x)
    (hy : rdv env y = some (.prim (.int kd i))) (ny : rdn env y) (hl : elemSz T t = some sz) (hσ : σ[l]? = some (.arr sz ver es)) (h : 0 ≤ i ∧ i ≤ len) : PRun P o env σ (.sla l sz (off + i.toNat) (len - i.toNat) ver) :=
  .of fun G A w hs hv => by
    have hX := rd (Rd.w hx nx) (by simp [ho, Op.operands]) hv
    have e' := VRel.prim_eq (rd (Rd.w hy ny) (by simp [ho, Op.operands]) hv)
    obtain ⟨e, s1, b1, z, li, h1, h2, h3⟩ := elemSz_spec hT hl
    obtain ⟨j, rfl⟩ := Int.eq_ofNat_of_zero_le h.1
    have hj : j ≤ len := by omega
    obtain ⟨ob, cap, hB, hne, hob⟩ := arr_at hs hσ
    generalize hA : A.eval x = v at hX
    cases hX with
    | sla _ _ _ _ _ a c hq =>
      obtain ⟨ob', cap', n', g1, g2, g3⟩ := hq
      rw [hB] at g1; simp at g1
      obtain ⟨rfl, rfl, rfl⟩ := g1
      obtain ⟨g4, g5⟩ := g3 rfl
      have hrb := run_bound (P := P) (k := kd) (i := (j : Int)) (y := len) (code := .sliceB) w ⟨by omega, by omega⟩
      rcases Nat.eq_zero_or_pos len with hz | hz
      · subst hz
        have hj0 : j = 0 := by omega
        subst hj0
        refine ⟨.slice a 0 c, ?_, .sla _ sz _ _ ver a c ⟨ob, cap, ver, hB, Nat.le_refl _, fun _ => ⟨by simpa using g4, .inl (by simp)⟩⟩⟩
        have hrb0 := run_bound (P := P) (k := kd) (i := (0 : Int)) (y := 0) (code := .sliceB) w ⟨by omega, by omega⟩
        simp only [execOp, ho, hA, Instr.sliceAt, Instr.slice, Option.map_none, Option.map_some]
        cases a <;> simp [h1.slice w, h2.run_size w, Instr.sliceBounds, e', hrb0, Addr.add]
      · rcases g5 with g5 | ⟨rfl, rfl⟩
        · omega
        cases ob with
        | none =>
          exfalso
          have ho := hs.objs l _ _ hB hσ
          cases ho
          omega
        | some b =>
          refine ⟨.slice (if cap - off = j then some ⟨b, off * sz, none⟩ else some ⟨b, off * sz + j * sz, none⟩) (len - j) (cap - off - j), ?_, ?_⟩
          · simp only [execOp, ho, hA, Instr.sliceAt, Instr.slice, Option.map_none, Option.map_some]
            simp [h1.slice w, h2.run_size w, h3, Instr.sliceBounds, e', hrb, addr_add]
          · simp only [Int.toNat_natCast]
            refine .sla _ sz _ _ ver _ _ ⟨some b, cap, ver, hB, Nat.le_refl _, fun _ => ⟨by omega, ?_⟩⟩
            by_cases hcj : cap - off = j
            · exact .inl (by omega)
            · refine .inr ⟨by omega, ?_⟩
              rw [if_neg hcj]; simp [Nat.add_mul]
/-- x[:hi] of an own array's slice. -/
theorem PRun.sliceHiS (hT : T.Ok P) {t : TypeId} {x y : Operand} {l sz off len ver : Nat} {es : List (List AV)} {kd : IntKind} {i : Int} (ho : o.op = .slice t x none (some y) none) (hx : rdv env x = some (.sla l sz off len ver)) (nx : rdn env x)
    (hy : rdv env y = some (.prim (.int kd i))) (ny : rdn env y) (hl : elemSz T t = some sz) (hσ : σ[l]? = some (.arr sz ver es)) (h : 0 ≤ i ∧ i ≤ len) : PRun P o env σ (.sla l sz off i.toNat ver) :=
  .of fun G A w hs hv => by
    have hX := rd (Rd.w hx nx) (by simp [ho, Op.operands]) hv
    have e' := VRel.prim_eq (rd (Rd.w hy ny) (by simp [ho, Op.operands]) hv)
    obtain ⟨e, s1, b1, z, li, h1, h2, h3⟩ := elemSz_spec hT hl
    obtain ⟨j, rfl⟩ := Int.eq_ofNat_of_zero_le h.1
    have hj : j ≤ len := by omega
    obtain ⟨ob, cap, hB, hne, hob⟩ := arr_at hs hσ
    generalize hA : A.eval x = v at hX
    cases hX with
    | sla _ _ _ _ _ a c hq =>
      obtain ⟨ob', cap', n', g1, g2, g3⟩ := hq
      rw [hB] at g1; simp at g1
      obtain ⟨rfl, rfl, rfl⟩ := g1
      obtain ⟨g4, g5⟩ := g3 rfl
      have hjc : j ≤ c := by
        rcases g5 with g5 | ⟨rfl, _⟩ <;> omega
      have hrb := run_bound (P := P) (k := kd) (i := (j : Int)) (y := c) (code := .sliceAcap) w ⟨by omega, by omega⟩
      rcases Nat.eq_zero_or_pos len with hz | hz
      · subst hz
        have hj0 : j = 0 := by omega
        subst hj0
        refine ⟨.slice a 0 c, ?_, .sla _ sz _ _ ver a c ⟨ob, cap, ver, hB, Nat.le_refl _, fun _ => ⟨by simpa using g4, .inl (by simp)⟩⟩⟩
        have hrb0 := run_bound (P := P) (k := kd) (i := (0 : Int)) (y := c) (code := .sliceAcap) w ⟨by omega, by omega⟩
        simp only [execOp, ho, hA, Instr.sliceAt, Instr.slice, Option.map_none, Option.map_some]
        cases a <;> simp [h1.slice w, h2.run_size w, Instr.sliceBounds, e', hrb0, Addr.add]
      · rcases g5 with g5 | ⟨rfl, rfl⟩
        · omega
        cases ob with
        | none =>
          exfalso
          have ho := hs.objs l _ _ hB hσ
          cases ho
          omega
        | some b =>
          refine ⟨.slice (some ⟨b, off * sz, none⟩) j (cap - off), ?_, .sla _ sz _ _ ver _ _ ⟨some b, cap, ver, hB, Nat.le_refl _, fun _ => ⟨by simp; omega, .inr ⟨rfl, rfl⟩⟩⟩⟩
          simp only [execOp, ho, hA, Instr.sliceAt, Instr.slice, Option.map_none, Option.map_some]
          simp [h1.slice w, h2.run_size w, h3, Instr.sliceBounds, e', hrb, addr_add]
/-- Of an own array, its first elements alone are told from now on. -/
theorem AWP.cutArr {c : Code} {K : Exit → Env → Store → Prop} {l sz ver : Nat} {es : List (List AV)} (m : Nat) (hσ : σ[l]? = some (.arr sz ver es)) (h : AWP P n c K env (σ.set l (.arr sz ver (es.take m)))) : AWP P n c K env σ := by
  intro G a w hr
  have hs := hr.st.retell (o' := .arr sz ver (es.take m)) hσ (fun g hg ho => by
    cases ho with
    | arrz => simpa using ORel.arrz (M := G.M) (B := G.B) (w := w) sz ver
    | arr b cap _ _ _ c T fr hb hf hl hn hz hr hm =>
      refine .arr b cap sz ver _ c T fr hb hf hl (by simp; omega) (fun e he => hz e (List.mem_of_mem_take he)) (fun i j e a hi hj => ?_) hm
      rw [List.getElem?_take] at hi
      split at hi
      · exact hr i j e a hi hj
      · cases hi)
  exact h G a w ⟨hr.size, hr.defers, hr.vals, hs⟩
theorem zeroCells_one {z : Array Value} (h : z.toList.all (·.oneCell') = true) (n : Nat) : ∀ v ∈ (Builtin.zeroCells z n).toList, v.oneCell' = true := by
  intro v hv
  simp only [Builtin.zeroCells, Array.toList_map, List.mem_map] at hv
  obtain ⟨i, hi, rfl⟩ := hv
  have hpos : 0 < z.size := by
    rcases Nat.eq_zero_or_pos z.size with h0 | h0
    · rw [h0] at hi; simp at hi
    · exact h0
  have hlt : i % z.size < z.size := Nat.mod_lt _ hpos
  rw [getElem!_pos z _ hlt]
  exact List.all_eq_true.1 h _ (by rw [← Array.getElem_toList (h := hlt)]; exact List.getElem_mem _)
/-- clear of an own array's slice: what lies ahead of it is told from now on. -/
theorem EStep.clearA (hT : T.Ok P) {t e : TypeId} {x : Operand} {l sz off len ver : Nat} {es : List (List AV)} {s1 b1 : Nat} {z : List Z} {le : LI} (ho : o.op = .call { callee := .builtin .clear, args := #[x], argTypes := #[t] }) (hg : o.guard = none)
    (hx : rdv env x = some (.sla l sz off len ver)) (nx : rdn env x) (hσ : σ[l]? = some (.arr sz ver es)) (hl : LOk P t ⟨.slice e, s1, b1, z⟩) (he : LOk P e le) (hz0 : le.zeroVal.cells.size = sz) (hz1 : le.zeroVal.cells.toList.all (·.oneCell') = true) (hdn : dstOk n o = true)
    (hk : k (env.putO o.dst .any) (σ.set l (.arr sz ver (es.take off)))) : EStep P n ops o k env σ := by
  refine EStep.plain hg fun G a w hr => ?_
  have h1 := hr.rd (Rd.w hx nx)
  generalize hA : a.eval x = X at h1
  obtain ⟨ob, cap, hB, hne, hob⟩ := arr_at hr.st hσ
  have hund := hl.undSlice
  cases h1 with
  | sla _ _ _ _ _ ad c hq =>
    obtain ⟨ob', cap', n', g1, g2, g3⟩ := hq
    rw [hB] at g1; simp at g1
    obtain ⟨rfl, rfl, rfl⟩ := g1
    obtain ⟨g4, g5⟩ := g3 rfl
    have same : (execOp a.eval o).run P w = .ok (.value (.tuple #[])) w → OWP P o a w (fun a' w' => ∃ env' σ' G', k env' σ' ∧ G.Le G' ∧ ARel n G' env' σ' a' w') := fun hrun => by
      unfold OWP
      rw [hrun]
      have hs := hr.st.retell (o' := .arr sz ver (es.take off)) hσ (fun g hg ho => by
        cases ho with
        | arrz => simpa using ORel.arrz (M := G.M) (B := G.B) (w := w) sz ver
        | arr b cap _ _ _ c T fr hb hf hl hn hz hr hm =>
          refine .arr b cap sz ver _ c T fr hb hf hl (by simp; omega) (fun e he => hz e (List.mem_of_mem_take he)) (fun i j e a hi hj => ?_) hm
          rw [List.getElem?_take] at hi
          split at hi
          · exact hr i j e a hi hj
          · cases hi)
      exact ⟨_, _, G, hk, Gh.Le.refl G, (⟨hr.size, hr.defers, hr.vals, hs⟩ : ARel n G env _ a w).putO (dstOk_spec hdn) (.any _)⟩
    rcases Nat.eq_zero_or_pos len with hz | hz
    · subst hz
      refine same ?_
      cases ad <;> simp [execOp, ho, resolve, invoke, builtin, hA, Builtin.clear_, run_underlying hund]
    · rcases g5 with g5 | ⟨rfl, rfl⟩
      · omega
      cases ob with
      | none =>
        exfalso
        have ho := hr.st.objs l _ _ hB hσ
        cases ho
        omega
      | some b =>
        obtain ⟨cs, T', fr, hbb, hf, hlen, hn, hz', hrel, hm⟩ := hob b rfl
        have hvs : (Builtin.zeroCells le.zeroVal.cells len).toList.length = len * sz := by simp [size_zeroCells, hz0]
        have hfit : off * sz + 0 + (Builtin.zeroCells le.zeroVal.cells len).toList.length ≤ cs.size := by
          rw [hvs, hlen, Nat.add_zero, ← Nat.add_mul]; exact Nat.mul_le_mul_right _ g4
        obtain ⟨w', c', r1, r2, r3, r4, r5, r6, rout⟩ := run_storeCells (P := P) (b := b) (off := off * sz) (T := T') (fr := fr) (Builtin.zeroCells le.zeroVal.cells len).toList 0 cs w hbb hf (zeroCells_one hz1 len) hfit
        obtain ⟨lm, rfl⟩ : ∃ m, len = m + 1 := ⟨len - 1, by omega⟩
        have hrun : (execOp a.eval o).run P w = .ok (.value (.tuple #[])) w' := by
          simp [execOp, ho, resolve, invoke, builtin, hA, Builtin.clear_, run_underlying hund, he.run_zero, r1]
        unfold OWP
        rw [hrun]
        have hmm : G.M.map b = none := mem_of_notmap hr.st.memok hbb (by simp)
        have hs : SRel G (σ.set l (.arr sz ver (es.take off))) w' := by
          refine hr.st.upd hB rfl r2 r3 (.arr b cap sz ver _ c' T' fr r4 (by rw [r5]; exact hf) (by rw [r5]; exact hlen) (by simp; omega) (fun e he => hz' e (List.mem_of_mem_take he)) (fun i' j e av he hj => ?_) hm) ⟨hm, hmm⟩ rout
          rw [List.getElem?_take] at he
          split at he
          · rename_i hio
            have hel := hz' e (List.mem_of_getElem? he)
            have hjs : j < sz := by
              have := (List.getElem?_eq_some_iff.1 hj).1
              omega
            have := mul_lt hio hjs
            rw [r6, if_neg (by omega)]
            exact hrel i' j e av he hj
          · cases he
        exact ⟨_, _, G, hk, Gh.Le.refl G, (⟨hr.size, hr.defers, hr.vals, hs⟩ : ARel n G env _ a w').putO (dstOk_spec hdn) (.any _)⟩
end
end Go.Ab
