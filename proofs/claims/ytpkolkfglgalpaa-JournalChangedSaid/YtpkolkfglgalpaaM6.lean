/- The abstract program logic, part 6. No statement is proved here. -/
import Derived.Test.YtpkolkfglgalpaaM5
import Derived.Lib.AppendZeros
set_option linter.unusedVariables false
set_option linter.unusedSimpArgs false
/- append of a make to nil, and what is cut of it: an array of the call's own with room. -/
namespace Go.Ab
section
variable {P : Program} {n : Nat} {ops : Array Oper} {o : Oper} {env : Env} {σ : Store} {T : Tab} {k : Env → Store → Prop}

theorem PRun.capNil (hT : T.Ok P) {t ty : TypeId} {x : Operand} {s1 b1 : Nat} {z : List Z} (ho : o.op = .call { callee := .builtin .cap, args := #[x], argTypes := #[t] }) (hx : rdv env x = some .nils) (nx : rdn env x) (hl : T.get t = some ⟨.slice ty, s1, b1, z⟩) : PRun P o env σ (.int 0) :=
  .of fun G A w hs hv => by
    have h1 := rd (Rd.w hx nx) (by simp [ho, Op.operands, Call.operands]) hv
    generalize hA : A.eval x = y at h1
    cases h1 with
    | nils => exact ⟨_, by simp [execOp, ho, hA, resolve, invoke, builtin, Builtin.cap_, (LOk.of (hT.get hl)).slice w, goInt], .prim _⟩
theorem PRun.sliceNil (hT : T.Ok P) {t : TypeId} {x y : Operand} {sz : Nat} {kd : IntKind} (ho : o.op = .slice t x none (some y) none) (hx : rdv env x = some .nils) (nx : rdn env x) (hy : rdv env y = some (.prim (.int kd 0))) (ny : rdn env y) (hl : elemSz T t = some sz) : PRun P o env σ .nils :=
  .of fun G A w hs hv => by
    have hX := rd (Rd.w hx nx) (by simp [ho, Op.operands]) hv
    have e' := VRel.prim_eq (rd (Rd.w hy ny) (by simp [ho, Op.operands]) hv)
    obtain ⟨e, s1, b1, z, li, h1, h2, h3⟩ := elemSz_spec hT hl
    generalize hA : A.eval x = v at hX
    cases hX with
    | nils =>
      refine ⟨.slice none 0 0, ?_, .nils⟩
      have := run_bound (P := P) (k := kd) (i := 0) (y := 0) (code := .sliceAcap) w ⟨by omega, by omega⟩
      simp only [execOp, ho, hA, Instr.sliceAt, Instr.slice, Option.map_none, Option.map_some]
      simp [h1.slice w, h2.run_size w, Instr.sliceBounds, e', this]
/-- append(nil, make(n)) -/
theorem EStep.appendMake (hT : T.Ok P) {s x : Operand} {t tx e : TypeId} {d sz m : Nat} {s1 b1 : Nat} {z : List Z} {le : LI} {kd : IntKind} {sx bx : Nat} {zx : List Z} (ho : o.op = .call { callee := .builtin .append, args := #[s, x], argTypes := #[t, tx] })
    (hg : o.guard = none) (hd : o.dst = some d) (hdn : decide (d < n) = true) (hs : Rd env s .nils) {i0 : Int} (hx : Rd env x (.int i0)) (him : i0 = m) (hm0 : 0 < m)
    (hl : LOk P t ⟨.slice e, s1, b1, z⟩) (hlx : LOk P tx ⟨.int kd, sx, bx, zx⟩) (he : LOk P e le) (hsz : le.size = sz) (hz0 : le.zero.length = le.size) (hpos : 0 < sz) (hbound : m * le.bytes ≤ 281474976710656) (hb2 : m ≤ 9223372036854775807)
    (hk : k (env.put d (.sla σ.length sz 0 m 0)) (σ ++ [.own sz 0])) : EStep P n ops o k env σ := by
  subst him
  refine EStep.plain hg fun G a w hr => ?_
  have h1 := hr.rd hs
  have h2 := VRel.prim_eq (hr.rd hx)
  generalize hA : a.eval s = sv at h1
  cases h1 with
  | nils =>
    obtain ⟨i, hi1, hi2, hi3, hi4⟩ := he.info
    have hund := hl.undSlice
    have hrun := Lib.run_append_nil_zeros (P := P) w t tx o.type e i le.zeroVal .i64 kd hund hlx.und_int hi1 (by rw [hi4]; rfl) m hm0 (by rw [hi2, hsz]; exact hpos) (by omega) (by rw [hi3]; exact hbound)
    have hcapge : m ≤ grownCap w m 0 e := grownCap_ge _ _ _ _
    have hzc : le.zeroVal.cells.size = sz := by
      unfold LI.zeroVal
      cases ha : le.lt.isAgg with
      | true => simp [Value.cells, hz0, hsz]
      | false =>
        obtain ⟨z', hz'⟩ := he.one ha
        rw [hz'] at hz0 ⊢
        simp at hz0
        rw [← hsz, ← hz0]
        cases z' <;> rfl
    generalize hrow : (Builtin.zeroCells le.zeroVal.cells m ++ Builtin.zeroCells le.zeroVal.cells (grownCap w m 0 e - m)) = row at hrun
    have hrowsz : row.size = grownCap w m 0 e * sz := by
      rw [← hrow]
      simp only [Array.size_append, size_zeroCells, hzc, ← Nat.add_mul]
      congr 1; omega
    have hrun2 : (execOp a.eval o).run P w = .ok (.value (.slice (some ⟨w.heap.size, 0, none⟩) m (grownCap w m 0 e))) (w.drew.alloc (.cells row e)) := by
      simp [execOp, ho, resolve, invoke, builtin, hA, h2, hrun]
    unfold OWP
    rw [hrun2]
    have hle : BLe G.B (G.B ++ [GB.own (some w.heap.size) (grownCap w m 0 e) 0]) := BLe.append _ _
    have hsd : SRel G σ w.drew := hr.st.drew
    have hs2 := hsd.alloc (o := .cells row e) (g := .own (some w.heap.size) (grownCap w m 0 e) 0) (ao := .own sz 0) rfl (.own w.heap.size _ sz 0 row e (0, 0) (by rw [heap_alloc]; exact if_pos rfl) (by intro o _; simp) hrowsz (Nat.zero_le _) fun o _ => (mem_lt hr.st.memok _ (Nat.le_refl _)).1 o)
    refine ⟨_, _, _, hk, .upB hle, ?_⟩
    rw [hd]
    have hr' : ARel n { G with B := G.B ++ [GB.own (some w.heap.size) (grownCap w m 0 e) 0] } env (σ ++ [.own sz 0]) a (w.drew.alloc (.cells row e)) := hr.later (.upB hle) hs2
    refine hr'.put (of_decide_eq_true hdn) (.sla _ sz 0 m 0 _ _ ⟨some w.heap.size, grownCap w m 0 e, 0, ?_, Nat.le_refl _, fun _ => ⟨by omega, .inr ⟨by omega, by simp⟩⟩⟩)
    rw [← hr.st.len]; simp
/-- Its first no elements: a slice that may grow there. -/
theorem PRun.sliceOwn0 (hT : T.Ok P) {t : TypeId} {x y : Operand} {l sz m : Nat} {kd : IntKind} (ho : o.op = .slice t x none (some y) none) (hx : rdv env x = some (.sla l sz 0 m 0)) (nx : rdn env x) (hy : rdv env y = some (.prim (.int kd 0))) (ny : rdn env y) (hl : elemSz T t = some sz)
    (hσ : σ[l]? = some (.own sz 0)) (hm0 : 0 < m) : PRun P o env σ (.sl sz [] (.own l)) :=
  .of fun G A w hs hv => by
    have hX := rd (Rd.w hx nx) (by simp [ho, Op.operands]) hv
    have e' := VRel.prim_eq (rd (Rd.w hy ny) (by simp [ho, Op.operands]) hv)
    obtain ⟨e, s1, b1, z, li, h1, h2, h3⟩ := elemSz_spec hT hl
    generalize hA : A.eval x = v at hX
    cases hX with
    | sla _ _ _ _ _ a c h =>
      obtain ⟨ob, cap, n', hB, hle, hat⟩ := h
      have hobj := hs.objs l _ _ hB hσ
      have hn0 : n' = 0 ∧ (ob = none → cap = 0) := by
        cases hobj with
        | ownz => exact ⟨rfl, fun _ => rfl⟩
        | own b cap sz n c T fr => exact ⟨rfl, fun h => by cases h⟩
      obtain ⟨rfl, hcap⟩ := hn0
      obtain ⟨k1, k2⟩ := hat rfl
      rcases k2 with k2 | ⟨rfl, rfl⟩
      · omega
      cases ob with
      | none => have := hcap rfl; omega
      | some b =>
        refine ⟨.slice (some ⟨b, 0, none⟩) 0 c, ?_, ?_⟩
        · have := run_bound (P := P) (k := kd) (i := 0) (y := c) (code := .sliceAcap) w ⟨by omega, by omega⟩
          simp only [execOp, ho, hA, Instr.sliceAt, Instr.slice, Option.map_none, Option.map_some]
          simp [h1.slice w, h2.run_size w, Instr.sliceBounds, e', this, addr_add]
        · exact .sl sz [] (.own l) b 0 c (fun _ _ => undef) (by simp) (by simp) (by simp) (Nat.zero_le _) ⟨some b, c, 0, hB, Nat.le_refl _, fun _ => ⟨rfl, rfl⟩⟩
end
end Go.Ab
