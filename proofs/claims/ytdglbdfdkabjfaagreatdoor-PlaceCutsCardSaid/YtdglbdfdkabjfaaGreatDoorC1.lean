/- Rules: slices of an own array that shrink to nothing; an append within an own array. Contracts by content: slices.Clone of repeats, endings and cuts; copied; slices.Delete of cuts. No statement is proved here. -/
import Derived.Test.YtdglbdfdkabjfaaGreatDoorP13
import Derived.Test.YtdglbdfdkabjfaaGreatDoorP14
import Derived.Test.YtdglbdfdkabjfaaGreatDoorP15
import Derived.Test.YtdglbdfdkabjfaaGreatDoorP18
import Derived.Test.YtdglbdfdkabjfaaGreatDoorP21
import Derived.Test.YtdglbdfdkabjfaaGreatDoorP25
set_option linter.unusedVariables false
set_option linter.unusedSimpArgs false

namespace Go.Ab
section
variable {P : Program} {n : Nat} {ops : Array Oper} {o : Oper} {env : Env} {σ : Store} {T : Tab} {k : Env → Store → Prop}
def At (l sz : Nat) : Nat → AV
 | 0 => .sl sz [] (.own l)
 | k + 1 => .sla l sz 0 (k + 1) 0
theorem At.val {M : Mem} {B : List GB} {l sz len b cap : Nat} (hB : B[l]? = some (.own (some b) cap 0)) {x : Value} (h : VRel M B (At l sz len) x) : x = .slice (some ⟨b, 0, none⟩) len cap := by
 cases len with
 | zero =>
   unfold At at h
   cases h with
   | sl _ _ _ b1 off cap' f hz hm hr' hc ht =>
     obtain ⟨ob', cp, n', g1, g2, g3⟩ := ht
     rw [hB] at g1; simp at g1
     obtain ⟨rfl, rfl, rfl⟩ := g1
     obtain ⟨g4, g5⟩ := g3 rfl
     simp at g4
     obtain ⟨rfl, rfl⟩ := g4
     subst g5; rfl
   | slz _ _ ht =>
     obtain ⟨ob', cp, n', g1, g2, g3⟩ := ht
     rw [hB] at g1; simp at g1
     obtain ⟨rfl, rfl, rfl⟩ := g1
     obtain ⟨g4, g5⟩ := g3 rfl
     simp at g4
 | succ m =>
   unfold At at h
   cases h with
   | sla _ _ _ _ _ a c hr =>
     obtain ⟨ob', cap', n', g1, g2, g3⟩ := hr
     rw [hB] at g1; simp at g1
     obtain ⟨rfl, rfl, rfl⟩ := g1
     obtain ⟨g4, g5⟩ := g3 rfl
     rcases g5 with g5 | ⟨rfl, rfl⟩
     · omega
     · simp
theorem At.mk {M : Mem} {B : List GB} {l sz len b cap : Nat} (hB : B[l]? = some (.own (some b) cap 0)) (hle : len ≤ cap) : VRel M B (At l sz len) (.slice (some ⟨b, 0, none⟩) len cap) := by
 cases len with
 | zero =>
   unfold At
   exact .sl sz [] (.own l) b 0 cap (fun _ _ => undef) (fun e he => by cases he) (fun i j hi => by cases hi) (fun i j e c h => by simp at h) (Nat.zero_le _) ⟨some b, cap, 0, hB, Nat.le_refl _, fun _ => ⟨rfl, rfl⟩⟩
 | succ m =>
   unfold At
   exact .sla l sz 0 (m + 1) 0 _ _ ⟨some b, cap, 0, hB, Nat.le_refl _, fun _ => ⟨by omega, .inr ⟨rfl, by simp⟩⟩⟩
theorem PRun.slice3A (hT : T.Ok P) {t : TypeId} {x y y' y'' : Operand} {l sz len : Nat} {es : List (List AV)} {kd kd' kd'' : IntKind} {i j : Int} (ho : o.op = .slice t x (some y) (some y') (some y'')) (hx : rdv env x = some (.sla l sz 0 len 0)) (nx : rdn env x)
 (hy : rdv env y = some (.prim (.int kd i))) (ny : rdn env y) (hy' : rdv env y' = some (.prim (.int kd' j))) (ny' : rdn env y') (hy'' : rdv env y'' = some (.prim (.int kd'' len))) (ny'' : rdn env y'') (hl : elemSz T t = some sz) (hσ : σ[l]? = some (.arr sz 0 es)) (hpos : 0 < len) (h : 0 ≤ i ∧ i ≤ j ∧ j ≤ len) (hil : i < len) : PRun P o env σ .any :=
 .of fun G A w hs hv => by
  have hX := rd (Rd.w hx nx) (by simp [ho, Op.operands]) hv
  have e' := VRel.prim_eq (rd (Rd.w hy ny) (by simp [ho, Op.operands]) hv)
  have e2 := VRel.prim_eq (rd (Rd.w hy' ny') (by simp [ho, Op.operands]) hv)
  have e3 := VRel.prim_eq (rd (Rd.w hy'' ny'') (by simp [ho, Op.operands]) hv)
  obtain ⟨e, s1, b1, z, li, h1, h2, h3⟩ := elemSz_spec hT hl
  obtain ⟨i, rfl⟩ := Int.eq_ofNat_of_zero_le h.1
  obtain ⟨j, rfl⟩ := Int.eq_ofNat_of_zero_le (Int.le_trans h.1 h.2.1)
  have hij : i ≤ j := by omega
  have hjl : j ≤ len := by omega
  obtain ⟨ob, cap, hB, hne, hob⟩ := arr_at hs hσ
  generalize hA : A.eval x = v at hX
  cases hX with
  | sla _ _ _ _ _ a c hq =>
    obtain ⟨ob', cap', n', g1, g2, g3⟩ := hq
    rw [hB] at g1; simp at g1
    obtain ⟨rfl, rfl, rfl⟩ := g1
    obtain ⟨g4, g5⟩ := g3 rfl
    rcases g5 with g5 | ⟨hcc, rfl⟩
    · omega
    have hcc : c = cap := by omega
    subst hcc
    have b1 := fun code => run_bound (P := P) (k := kd) (i := (i : Int)) (y := j) (code := code) w ⟨by omega, by omega⟩
    have b2 := fun code => run_bound (P := P) (k := kd') (i := (j : Int)) (y := len) (code := code) w ⟨by omega, by omega⟩
    have b3 := fun code => run_bound (P := P) (k := kd'') (i := (len : Int)) (y := c) (code := code) w ⟨by omega, by omega⟩
    cases ob with
    | none =>
      exfalso
      have ho := hs.objs l _ _ hB hσ
      cases ho
      omega
    | some b =>
      have hil : i < len := by omega
      have hne2 : ¬ len - i = 0 := by omega
      refine ⟨.slice (some ⟨b, i * sz, none⟩) (j - i) (len - i), ?_, .any _⟩
      simp only [execOp, ho, hA, Instr.sliceAt, Instr.slice, Option.map_none, Option.map_some]
      simp [h1.slice w, h2.run_size w, h3, Instr.sliceBounds, e', e2, e3, b1, b2, b3, addr_add, hne2]
      intro h; omega
theorem PRun.sliceHiO (hT : T.Ok P) {t : TypeId} {x y : Operand} {l sz len : Nat} {es : List (List AV)} {kd : IntKind} (ho : o.op = .slice t x none (some y) none) (hx : rdv env x = some (.sla l sz 0 len 0)) (nx : rdn env x)
 (hy : rdv env y = some (.prim (.int kd 0))) (ny : rdn env y) (hl : elemSz T t = some sz) (hσ : σ[l]? = some (.arr sz 0 es)) (hpos : 0 < len) : PRun P o env σ (.sl sz [] (.own l)) :=
 .of fun G A w hs hv => by
  have hX := rd (Rd.w hx nx) (by simp [ho, Op.operands]) hv
  have e' := VRel.prim_eq (rd (Rd.w hy ny) (by simp [ho, Op.operands]) hv)
  obtain ⟨e, s1, b1, z, li, h1, h2, h3⟩ := elemSz_spec hT hl
  obtain ⟨ob, cap, hB, hne, hob⟩ := arr_at hs hσ
  generalize hA : A.eval x = v at hX
  cases hX with
  | sla _ _ _ _ _ a c hq =>
    obtain ⟨ob', cap', n', g1, g2, g3⟩ := hq
    rw [hB] at g1; simp at g1
    obtain ⟨rfl, rfl, rfl⟩ := g1
    obtain ⟨g4, g5⟩ := g3 rfl
    rcases g5 with g5 | ⟨hcc, rfl⟩
    · omega
    have hcc : c = cap := by omega
    subst hcc
    have hrb := run_bound (P := P) (k := kd) (i := (0 : Int)) (y := c) (code := .sliceAcap) w ⟨by omega, by omega⟩
    cases ob with
    | none =>
      exfalso
      have ho := hs.objs l _ _ hB hσ
      cases ho
      omega
    | some b =>
      refine ⟨.slice (some ⟨b, 0, none⟩) 0 c, ?_, At.mk (len := 0) hB (Nat.zero_le _)⟩
      simp only [execOp, ho, hA, Instr.sliceAt, Instr.slice, Option.map_none, Option.map_some]
      simp only [Int.toNat_zero] at hrb
      simp [h1.slice w, h2.run_size w, h3, Instr.sliceBounds, e', hrb, addr_add]
theorem PRun.sliceLHO (hT : T.Ok P) {t : TypeId} {x y y' : Operand} {l sz : Nat} (len hi : Nat) {S : AV} {es : List (List AV)} {kd kd' : IntKind} (ho : o.op = .slice t x (some y) (some y') none) (hx : rdv env x = some S) (nx : rdn env x) (hS : S = At l sz len)
 (hy : rdv env y = some (.prim (.int kd (len : Nat)))) (ny : rdn env y) (hy' : rdv env y' = some (.prim (.int kd' (hi : Nat)))) (ny' : rdn env y') (hl : elemSz T t = some sz) (hσ : σ[l]? = some (.arr sz 0 es)) (h : len < hi ∧ hi ≤ es.length) : PRun P o env σ (.sla l sz len (hi - len) 0) :=
 .of fun G A w hs hv => by
  subst hS
  have hX := rd (Rd.w hx nx) (by simp [ho, Op.operands]) hv
  have e' := VRel.prim_eq (rd (Rd.w hy ny) (by simp [ho, Op.operands]) hv)
  have e2 := VRel.prim_eq (rd (Rd.w hy' ny') (by simp [ho, Op.operands]) hv)
  obtain ⟨e, s1, b1, z, li, h1, h2, h3⟩ := elemSz_spec hT hl
  obtain ⟨ob, cap, hB, hne, hob⟩ := arr_at hs hσ
  obtain ⟨b, rfl⟩ := hne (by intro e; rw [e] at h; simp at h; omega)
  obtain ⟨c, T', fr, hb, hf, hlc, hn, hz, hrel, hm⟩ := hob b rfl
  have hA := At.val hB hX
  have b1 := fun code => run_bound (P := P) (k := kd) (i := (len : Int)) (y := hi) (code := code) w ⟨by omega, by omega⟩
  have b2 := fun code => run_bound (P := P) (k := kd') (i := (hi : Int)) (y := cap) (code := code) w ⟨by omega, by omega⟩
  refine ⟨.slice (some ⟨b, len * sz, none⟩) (hi - len) (cap - len), ?_, .sla _ sz _ _ 0 _ _ ⟨some b, cap, 0, hB, Nat.le_refl _, fun _ => ⟨by omega, .inr ⟨rfl, rfl⟩⟩⟩⟩
  simp only [execOp, ho, hA, Instr.sliceAt, Instr.slice, Option.map_none, Option.map_some]
  have hne2 : ¬ cap - len = 0 := by omega
  simp [h1.slice w, h2.run_size w, h3, Instr.sliceBounds, e', e2, b1, b2, addr_add, hne2]
  intro h; omega
theorem EStep.appendIn (hT : T.Ok P) {s x : Operand} {t tx e ex : TypeId} {d l sz : Nat} (i j m : Nat) {es es' : List (List AV)} {S R : AV} {s1 b1 s2 b2 : Nat} {z z2 : List Z} {le : LI} (ho : o.op = .call { callee := .builtin .append, args := #[s, x], argTypes := #[t, tx] })
 (hg : o.guard = none) (hd : o.dst = some d) (hdn : d < n) (hs : Rd env s S) (hS : S = At l sz i) (hR : R = At l sz (i + m)) (hσ : σ[l]? = some (.arr sz 0 es)) (hx : Rd env x (.sla l sz j m 0)) (hone : ∀ x ∈ es, x.all oneAV = true)
 (hl : LOk P t ⟨.slice e, s1, b1, z⟩) (hlx : LOk P tx ⟨.slice ex, s2, b2, z2⟩) (he : LOk P e le) (hsz : le.size = sz) (hlen : 0 < es.length) (him : i + m ≤ es.length) (hjm : j + m ≤ es.length) (hes : es' = es.take i ++ ((es.drop j).take m ++ es.drop (i + m)))
 (hk : k (env.put d R) (σ.set l (.arr sz 0 es'))) : EStep P n ops o k env σ := by
 subst hS; subst hR
 refine EStep.plain hg fun G a w hr => ?_
 have h1 := hr.rd hs
 have h2 := hr.rd hx
 generalize hA : a.eval s = sv at h1
 generalize hX : a.eval x = xv at h2
 obtain ⟨ti, hi1, hi2, hi3, hi4⟩ := he.info
 have hund := hl.undSlice
 have hundx := hlx.undSlice
 obtain ⟨ob, cap, hB, hne, hob⟩ := arr_at hr.st hσ
 obtain ⟨b, rfl⟩ := hne (by intro e; rw [e] at hlen; simp at hlen)
 obtain ⟨c, T', fr, hb, hf, hlc, hn, hz, hrel, hm⟩ := hob b rfl
 have hA' := At.val hB h1
 subst hA'
 -- the cells that are read
 have hcell : ∀ q, q < m * sz → j * sz + q < c.size := fun q hq => by
  have : (j + m) * sz ≤ cap * sz := Nat.mul_le_mul_right _ (by omega)
  rw [Nat.add_mul] at this
  rw [hlc]; omega
 have hval : ∀ q, q < m * sz → ∃ e0 u, es[j + q / sz]? = some e0 ∧ e0[q % sz]? = some u ∧ VRel G.M G.B u (c.getD (j * sz + q) undef) ∧ oneAV u = true := fun q hq => by
  obtain ⟨g1, g2, g3⟩ := range_div hq
  have hlt : j + q / sz < es.length := by omega
  have hel := hz _ (List.getElem_mem hlt)
  have hlt2 : q % sz < (es[j + q / sz]).length := by omega
  refine ⟨es[j + q / sz], (es[j + q / sz])[q % sz], List.getElem?_eq_getElem hlt, List.getElem?_eq_getElem hlt2, ?_, List.all_eq_true.1 (hone _ (List.getElem_mem hlt)) _ (List.getElem_mem hlt2)⟩
  have := hrel (j + q / sz) (q % sz) _ _ (List.getElem?_eq_getElem hlt) (List.getElem?_eq_getElem hlt2)
  rw [Nat.add_mul, Nat.add_assoc, ← g3] at this
  exact this
 obtain ⟨news, hnews⟩ : ∃ news : List Value, news = (List.range (m * sz)).map fun q => c.getD (j * sz + q) undef := ⟨_, rfl⟩
 have hNl : news.length = m * sz := by rw [hnews]; simp
 have hNg : ∀ q, q < m * sz → news.getD q undef = c.getD (j * sz + q) undef := fun q hq => by rw [hnews]; simp [List.getD, hq]
 have hNone : ∀ u ∈ news, u.oneCell' = true := fun u hu => by
  rw [hnews, List.mem_map] at hu
  obtain ⟨q, hq, rfl⟩ := hu
  obtain ⟨e0, u, _, _, g3, g4⟩ := hval q (List.mem_range.1 hq)
  exact oneAV_rel g4 g3
 have hfirst : ∀ w' : World, w'.heap = w.heap → (Builtin.firstCells sz m xv).run P w' = .ok news.toArray w' := fun w' hw => by
  cases h2 with
  | sla _ _ _ _ _ ad c2 hq =>
    obtain ⟨ob', cap', n', g1, g2, g3⟩ := hq
    rw [hB] at g1; simp at g1
    obtain ⟨rfl, rfl, rfl⟩ := g1
    obtain ⟨g4, g5⟩ := g3 rfl
    rcases Nat.eq_zero_or_pos m with h0 | h0
    · subst h0
      have : news = [] := List.eq_nil_of_length_eq_zero (by rw [hNl, Nat.zero_mul])
      subst this
      cases ad <;> simp [Builtin.firstCells, loadCells, loadCellsFrom]
    · rcases g5 with g5 | ⟨rfl, rfl⟩
      · omega
      have := run_loadCells_list (P := P) w' ⟨b, j * sz, none⟩ news (fun q v hq => by
       have hq2 := (List.getElem?_eq_some_iff.1 hq).1
       rw [hNl] at hq2
       have hv : news.getD q undef = v := by simp [List.getD, hq]
       rw [hNg q hq2] at hv
       have h3 := hcell q hq2
       have hb' : w'.heap[b]? = some (.cells c T' fr) := by rw [hw]; exact hb
       simp [World.cell?, addr_add, hb', h3] at hv ⊢
       exact hv)
      rw [hNl] at this
      simp only [Option.map, Builtin.firstCells]
      exact this
 have hlenx : ∀ w' : World, (Builtin.lenOf xv).run P w' = .ok m w' := fun w' => by
  cases h2 <;> rfl
 have hS : Src P ti.size tx xv m news w := ⟨.inl ⟨_, hundx⟩, hlenx, by rw [hi2, hsz]; exact hfirst w rfl, by rw [hi2, hsz]; exact hfirst w.drew rfl, by rw [hi2, hsz]; exact hNl, hNone⟩
 have hcs : (i + m) * sz ≤ c.size := by rw [hlc]; exact Nat.mul_le_mul_right _ (by omega)
 rw [Nat.add_mul] at hcs
 obtain ⟨w', c', r1, r2, r3, r4, r5, r6, rout⟩ := run_storeCells (P := P) (b := b) (off := i * sz) (T := T') (fr := fr) news 0 c w hb hf hNone (by rw [hNl]; omega)
 have hrun := run_append_room' (P := P) w w' t tx o.type e ti hund hi1 b 0 i cap xv m news hS (by omega) (by rw [hi2, hsz, Nat.zero_add]; exact r1)
 have hrun2 : (execOp a.eval o).run P w = .ok (.value (.slice (some ⟨b, 0, none⟩) (i + m) cap)) w' := by simp [execOp, ho, resolve, invoke, builtin, hA, hX, hrun]
 unfold OWP
 rw [hrun2]
 simp only [Nat.add_zero] at r6
 have hmapb : G.M.map b = none := mem_of_notmap hr.st.memok hb (by intros; simp)
 have hel : es'.length = es.length := by
  rw [hes]; simp only [List.length_append, List.length_take, List.length_drop]; omega
 have hget : ∀ p, es'[p]? = if p < i then es[p]? else if p < i + m then es[p - i + j]? else es[p]? := fun p => by
  rw [hes]
  by_cases h0 : p < i
  · rw [if_pos h0, List.getElem?_append_left (by rw [List.length_take]; omega), List.getElem?_take, if_pos h0]
  · rw [if_neg h0, List.getElem?_append_right (by rw [List.length_take]; omega), List.length_take, Nat.min_eq_left (by omega)]
    by_cases h1 : p < i + m
    · rw [if_pos h1, List.getElem?_append_left (by rw [List.length_take, List.length_drop]; omega), List.getElem?_take, if_pos (by omega), List.getElem?_drop]
      congr 1; omega
    · rw [if_neg h1, List.getElem?_append_right (by rw [List.length_take, List.length_drop]; omega), List.length_take, List.length_drop, List.getElem?_drop]
      congr 1; omega
 have hs2 : SRel G (σ.set l (.arr sz 0 es')) w' := by
  refine hr.st.upd hB rfl r2 r3 (.arr b cap sz 0 _ c' T' fr r4 (by rw [r5]; exact hf) (by rw [r5]; exact hlc) (by omega) (fun e he => ?_) (fun p q e1 av he hj => ?_) hm) ⟨hm, hmapb⟩ rout
  · rw [hes] at he
    rcases List.mem_append.1 he with h | h
    · exact hz e (List.mem_of_mem_take h)
    · rcases List.mem_append.1 h with h | h
      · exact hz e (List.mem_of_mem_drop (List.mem_of_mem_take h))
      · exact hz e (List.mem_of_mem_drop h)
  · rw [hget] at he
    have hq : ∀ e0 ∈ es, e1 = e0 → q < sz := fun e0 h0 h3 => by
     have := (List.getElem?_eq_some_iff.1 hj).1
     rw [h3, hz e0 h0] at this; exact this
    rw [r6, hNl]
    by_cases h0 : p < i
    · rw [if_pos h0] at he
      have hqs := hq _ (List.mem_of_getElem? he) rfl
      have := mul_lt h0 hqs
      rw [if_neg (by omega)]
      exact hrel p q e1 av he hj
    · rw [if_neg h0] at he
      by_cases h1 : p < i + m
      · rw [if_pos h1] at he
        have hqs := hq _ (List.mem_of_getElem? he) rfl
        have hlt := mul_lt (i := p - i) (n := m) (by omega) hqs
        have e2 : p * sz + q = i * sz + ((p - i) * sz + q) := by
         rw [← Nat.add_assoc, ← Nat.add_mul]; congr 2; omega
        rw [e2, if_pos ⟨by omega, by omega⟩, Nat.add_sub_cancel_left, hNg _ hlt]
        have := hrel (p - i + j) q e1 av he hj
        rw [Nat.add_mul, Nat.add_right_comm, Nat.add_comm] at this
        exact this
      · rw [if_neg h1] at he
        have := Nat.mul_le_mul_right sz (show i + m ≤ p by omega)
        rw [Nat.add_mul] at this
        rw [if_neg (by omega)]
        exact hrel p q e1 av he hj
 refine ⟨_, _, G, hk, Gh.Le.refl G, ?_⟩
 rw [hd]
 have hr' : ARel n G env (σ.set l (.arr sz 0 es')) a w' := ⟨hr.size, hr.defers, hr.vals, hs2⟩
 exact hr'.put hdn (At.mk hB (by omega))
end
end Go.Ab
namespace Go.Ab
def effS (l : List Nat) (o : Oper) : Bool := match o.dst with
 | some d => l.contains d
 | none => effOp o
end Go.Ab
namespace Go.Proofs.YtdglbdfdkabjfaaGreatDoor.Pl
open Go.Ab Go.Pl
attribute [local irreducible] AWP AOps EStep AQ PStep PRun PCall TCall VCall
theorem one_encRp (l : List PRep) : ∀ x ∈ l.map encRp, x.all oneAV = true := fun x hx => by
 obtain ⟨c, _, rfl⟩ := List.mem_map.1 hx; rfl
theorem one_encEn (l : List PEnd) : ∀ x ∈ l.map encEn, x.all oneAV = true := fun x hx => by
 obtain ⟨c, _, rfl⟩ := List.mem_map.1 hx; rfl
theorem one_encCt (l : List PCut) : ∀ x ∈ l.map encCt, x.all oneAV = true := fun x hx => by
 obtain ⟨c, _, rfl⟩ := List.mem_map.1 hx; rfl
theorem cloneRp_spec (l : List PRep) (hl : l.length ≤ 1000000000) : PCall Tryz.prog 140 [.sl 3 (l.map encRp) .no] (.sl 3 (l.map encRp) .no) := by
 have hll : (l.map encRp).length = l.length := by simp
 refine PCall.body Tryz.func140 rfl rfl Tryz.ntmps140 rfl rfl ?_
 repeat' (first | refine AOps.q rfl rfl rfl (fun hg => by exact std0) (by exact rfl) ?_ | refine AWP.seq ?_ | refine AWP.regionK (fun K' hK => ?_) | (refine AOps.nil (hK _ _ ?_); clear hK K') | refine AOps.e (EStep.nilSl tabOk rfl rfl rfl rfl rfl True.intro rfl ?_))
 intro b hb
 repeat' (first | refine AOps.q rfl rfl rfl (fun hg => by first | exact PRun.buildSl0 tabOk rfl rfl | exact std0) (by exact rfl) ?_ | refine AWP.seq ?_ | refine AWP.regionK (fun K' hK => ?_) | (refine AOps.nil (hK _ _ ?_); clear hK K') | refine AOps.e (EStep.appendArrF tabOk rfl rfl rfl rfl (Rd.w rfl True.intro) (Rd.w rfl True.intro) (.sl rfl (one_encRp _)) (LOk.of (tabOk.get rfl)) (LOk.of (tabOk.get rfl)) rfl rfl (by simp only [hll]; omega) (by omega) ?_) | (refine AWP.condW rfl True.intro (fun hc => ?_) (fun hc => ?_) <;> (first | (simp only [decide_eq_true_eq] at hc) | (simp only [decide_eq_false_iff_not, Int.not_lt, Int.not_le] at hc) | skip)) | refine AWP.skip ?_)
 · have : l = [] := by simpa using hb hc
   subst this
   refine AWP.ret ⟨.inr rfl, Ent.nil⟩
 · refine AWP.freezeA (d := 2) (l := 0) (sz := 3) (ver := 0) (es := l.map encRp) rfl rfl (pure_prims fun e he => by obtain ⟨c, _, rfl⟩ := List.mem_map.1 he; rfl) ?_
   exact AWP.ret ⟨.inr rfl, fun _ _ h => h⟩
theorem cloneEn_spec (l : List PEnd) (hl : l.length ≤ 1000000000) : PCall Tryz.prog 141 [.sl 3 (l.map encEn) .no] (.sl 3 (l.map encEn) .no) := by
 have hll : (l.map encEn).length = l.length := by simp
 refine PCall.body Tryz.func141 rfl rfl Tryz.ntmps141 rfl rfl ?_
 repeat' (first | refine AOps.q rfl rfl rfl (fun hg => by exact std0) (by exact rfl) ?_ | refine AWP.seq ?_ | refine AWP.regionK (fun K' hK => ?_) | (refine AOps.nil (hK _ _ ?_); clear hK K') | refine AOps.e (EStep.nilSl tabOk rfl rfl rfl rfl rfl True.intro rfl ?_))
 intro b hb
 repeat' (first | refine AOps.q rfl rfl rfl (fun hg => by first | exact PRun.buildSl0 tabOk rfl rfl | exact std0) (by exact rfl) ?_ | refine AWP.seq ?_ | refine AWP.regionK (fun K' hK => ?_) | (refine AOps.nil (hK _ _ ?_); clear hK K') | refine AOps.e (EStep.appendArrF tabOk rfl rfl rfl rfl (Rd.w rfl True.intro) (Rd.w rfl True.intro) (.sl rfl (one_encEn _)) (LOk.of (tabOk.get rfl)) (LOk.of (tabOk.get rfl)) rfl rfl (by simp only [hll]; omega) (by omega) ?_) | (refine AWP.condW rfl True.intro (fun hc => ?_) (fun hc => ?_) <;> (first | (simp only [decide_eq_true_eq] at hc) | (simp only [decide_eq_false_iff_not, Int.not_lt, Int.not_le] at hc) | skip)) | refine AWP.skip ?_)
 · have : l = [] := by simpa using hb hc
   subst this
   refine AWP.ret ⟨.inr rfl, Ent.nil⟩
 · refine AWP.freezeA (d := 2) (l := 0) (sz := 3) (ver := 0) (es := l.map encEn) rfl rfl (pure_prims fun e he => by obtain ⟨c, _, rfl⟩ := List.mem_map.1 he; rfl) ?_
   exact AWP.ret ⟨.inr rfl, fun _ _ h => h⟩
def OkA (o : AObj) : Prop := ∀ m, okObj m o = true
theorem okStA {l : List AObj} (h : ∀ o ∈ l, OkA o) (m : Nat) : (l : Store).all (okObj m) = true := List.all_eq_true.2 fun o ho => h o ho m
theorem okArrC (l : List PCut) : OkA (.arr 3 0 (l.map encCt)) := fun m => by simp [okObj, encCt, okRef]
theorem okF (f : PForm) : OkA (.var (encF f)) := fun m => by simp [okObj, encF, okRef, encRp, encEn, encCt]
theorem cloneC0_T {o0 o1 o2 o3 o4 : AObj} (ho : ∀ o ∈ [o0, o1, o2, o3, o4], OkA o) : TCall Tryz.prog 142 [.sl 3 (([] : List PCut).map encCt) .no] [o0, o1, o2, o3, o4]
 (fun r s => r = .sl 3 [] .fresh ∧ s = [o0, o1, o2, o3, o4]) := by
 have hok : ([o0, o1, o2, o3, o4] : Store).all (okObj 5) = true := okStA ho 5
 refine TCall.body Tryz.func142 rfl rfl Tryz.ntmps142 rfl rfl ?_
 repeat' (first | refine AOps.q rfl rfl rfl (fun hg => by exact std0) (by exact rfl) ?_ | refine AWP.seq ?_ | refine AWP.regionK (fun K' hK => ?_) | (refine AOps.nil (hK _ _ ?_); clear hK K') | refine AOps.e (EStep.nilSl tabOk rfl rfl rfl rfl rfl True.intro rfl ?_))
 intro b hb
 repeat' (first | refine AOps.q rfl rfl rfl (fun hg => by first | exact PRun.buildSl0 tabOk rfl rfl | exact std0) (by exact rfl) ?_ | refine AWP.seq ?_ | refine AWP.regionK (fun K' hK => ?_) | (refine AOps.nil (hK _ _ ?_); clear hK K') | refine AOps.e (EStep.appendE tabOk rfl rfl rfl (by decide) (Rd.w rfl True.intro) (Rd.w rfl True.intro) (.sl rfl (one_encCt [])) (LOk.of (tabOk.get rfl)) (LOk.of (tabOk.get rfl)) rfl ?_) | (refine AWP.condW rfl True.intro (fun hc => ?_) (fun hc => ?_) <;> (first | (simp only [decide_eq_true_eq] at hc) | (simp only [decide_eq_false_iff_not, Int.not_lt, Int.not_le] at hc) | skip)) | refine AWP.skip ?_)
 · refine AWP.nilFresh 2 3 rfl ?_
   exact AWP.ret ⟨.inr rfl, .sl 3 [] .fresh, [o0, o1, o2, o3, o4], ⟨rfl, rfl⟩, rfl, Nat.le_refl _, hok, rfl, rfl⟩
 · exact AWP.ret ⟨.inr rfl, .sl 3 [] .fresh, [o0, o1, o2, o3, o4], ⟨rfl, rfl⟩, rfl, Nat.le_refl _, hok, rfl, rfl⟩
theorem cloneC_T {l : List PCut} (hl : l.length ≤ 1000000) (hne : l ≠ []) {o0 o1 o2 o3 o4 : AObj} (ho : ∀ o ∈ [o0, o1, o2, o3, o4], OkA o) : TCall Tryz.prog 142 [.sl 3 (l.map encCt) .no] [o0, o1, o2, o3, o4]
 (fun r s => r = .sla 5 3 0 l.length 0 ∧ s = [o0, o1, o2, o3, o4, .arr 3 0 (l.map encCt)]) := by
 have hll : (l.map encCt).length = l.length := by simp
 have hok : ([o0, o1, o2, o3, o4, .arr 3 0 (l.map encCt)] : Store).all (okObj 6) = true := okStA (fun o h => by
  rcases List.mem_append.1 (show o ∈ [o0, o1, o2, o3, o4] ++ [.arr 3 0 (l.map encCt)] from h) with h | h
  · exact ho o h
  · rw [List.mem_singleton.1 h]; exact okArrC l) 6
 refine TCall.body Tryz.func142 rfl rfl Tryz.ntmps142 rfl rfl ?_
 repeat' (first | refine AOps.q rfl rfl rfl (fun hg => by exact std0) (by exact rfl) ?_ | refine AWP.seq ?_ | refine AWP.regionK (fun K' hK => ?_) | (refine AOps.nil (hK _ _ ?_); clear hK K') | refine AOps.e (EStep.nilSl tabOk rfl rfl rfl rfl rfl True.intro rfl ?_))
 intro b hb
 repeat' (first | refine AOps.q rfl rfl rfl (fun hg => by first | exact PRun.buildSl0 tabOk rfl rfl | exact std0) (by exact rfl) ?_ | refine AWP.seq ?_ | refine AWP.regionK (fun K' hK => ?_) | (refine AOps.nil (hK _ _ ?_); clear hK K') | refine AOps.e (EStep.appendArrF tabOk rfl rfl rfl rfl (Rd.w rfl True.intro) (Rd.w rfl True.intro) (.sl rfl (one_encCt _)) (LOk.of (tabOk.get rfl)) (LOk.of (tabOk.get rfl)) rfl rfl (by simp only [hll]; omega) (by omega) ?_) | (refine AWP.condW rfl True.intro (fun hc => ?_) (fun hc => ?_) <;> (first | (simp only [decide_eq_true_eq] at hc) | (simp only [decide_eq_false_iff_not, Int.not_lt, Int.not_le] at hc) | skip)) | refine AWP.skip ?_ | refine AWP.ret ?_)
 · exact absurd (by simpa using hb hc) hne
 · exact ⟨.inr rfl, .sla 5 3 0 (l.map encCt).length 0, [o0, o1, o2, o3, o4, .arr 3 0 (l.map encCt)], ⟨by rw [hll], rfl⟩, rfl, by simp, hok, rfl, rfl⟩
abbrev zF : List AV := [.int 0, .nils, .nils, .int 0, .int 0, .int 0, .nils]
abbrev encFc (f : PForm) (c : AV) : List AV := [.int f.bars, .sl 3 (f.reps.map encRp) .no, .sl 3 (f.ends.map encEn) .no, .int f.jump.at_, .int f.jump.to, .int f.jump.fine, c]
def clsC (o : Oper) : Nat := match o.dst with
 | some 11 => 1
 | some _ => 0
 | none => 2
def copS (o0 o1 o2 : AObj) (f : PForm) (c : AV) (more : Store) : Nat → Nat → Store
 | j1, j2 => [o0, o1, o2, .var (match j2 with | 0 => encF f | 1 => encF f | 2 => encF f | _ => encFc f c), .var zF] ++ (match j1 with | 0 => [] | _ => more)
set_option maxHeartbeats 4000000 in
theorem copied_gen (f : PForm) (hf : FIn f) {o0 o1 o2 : AObj} (c : AV) (more : Store) (hpr : c = .sl 3 [] .fresh ∨ ∃ n, c = .sla 5 3 0 n 0) (hok : ([o0, o1, o2, .var (encFc f c), .var (encFc f c)] ++ more : Store).all (okObj ([o0, o1, o2, .var (encFc f c), .var (encFc f c)] ++ more : Store).length) = true)
 (w3 : VCall Tryz.prog (.fn (.func 142) [] []) [.sl 3 (f.cuts.map encCt) .no] [o0, o1, o2, .var (encF f), .var zF] (fun r s => r = c ∧ s = [o0, o1, o2, .var (encF f), .var zF] ++ more)) (hr : okRef ([o0, o1, o2, .var (encFc f c), .var (encFc f c)] ++ more : Store).length 4 (.agg (encFc f c)) = true) :
 TCall Tryz.prog 86 [.agg (encF f)] [o0, o1, o2] (fun r s => r = .agg (encFc f c) ∧ s = [o0, o1, o2, .var (encFc f c), .var (encFc f c)] ++ more) := by
 have w1 := cloneRp_spec f.reps hf.reps
 have w2 := cloneEn_spec f.ends hf.ends
 refine TCall.bodySB tabOk Tryz.func86 rfl rfl Tryz.ntmps86 rfl ?_
 repeat' (first | refine AWP.seq ?_ | refine AWP.regionK (fun K' hK => ?_) | (refine AOps.nil (hK _ _ ?_); clear hK K') | refine AOps.e (EStep.boxW rfl rfl rfl rfl rfl True.intro rfl rfl ?_) | refine AOps.e (EStep.allocW tabOk rfl rfl rfl rfl rfl rfl ?_))
 refine AWP.drawW clsC (copS o0 o1 o2 f c more) rfl (by kernel_rfl) (by decide +kernel) rfl (by decide +kernel) (fun K' hK => ?_)
 repeat' (first
  | refine WQ.q rfl (by decide +kernel) rfl rfl (fun k1 k2 h1 h2 hg => by first | (first | exact std0 | exact PRun.callW (w1) rfl rfl nd rfl nds | exact PRun.callW (w2) rfl rfl nd rfl nds | exact std1) | ((have a1 : k1 = 0 ∨ k1 = 1 ∨ k1 = 2 := (by omega)); (rcases a1 with rfl | rfl | rfl) <;> (first | exact std0 | exact PRun.callW (w1) rfl rfl nd rfl nds | exact PRun.callW (w2) rfl rfl nd rfl nds | exact std1)) | ((have a1 : k1 = 0 ∨ k1 = 1 ∨ k1 = 2 := (by omega)); (have a2 : k2 = 0 ∨ k2 = 1 ∨ k2 = 2 := (by omega)); (rcases a1 with rfl | rfl | rfl) <;> (rcases a2 with rfl | rfl | rfl) <;> (first | exact std0 | exact PRun.callW (w1) rfl rfl nd rfl nds | exact PRun.callW (w2) rfl rfl nd rfl nds | exact std1))) (by exact rfl) ?_)
 refine WQ.e1 2 (v := c) (d := some 11) rfl (by decide +kernel) rfl ?_ ?_
 · intro env' he k2 hk2
   have hk : k2 = 0 ∨ k2 = 1 ∨ k2 = 2 := by omega
   rcases hk with rfl | rfl | rfl
   all_goals
    refine EStep.callT w3 rfl rfl rfl rfl rfl True.intro rfl (by simp only [rds, rdv_congr (he 10 (by decide +kernel))]; rfl) ⟨(by rw [rdn_congr (he 10 (by decide +kernel))]; first | exact True.intro | exact rfl), True.intro⟩ ?_
    rintro r s ⟨rfl, rfl⟩
    exact ⟨rfl, rfl⟩
 repeat' (first
  | refine WQ.q rfl (by decide +kernel) rfl rfl (fun k1 k2 h1 h2 hg => by first | (first | exact std0 | exact std1) | ((have a1 : k1 = 0 ∨ k1 = 1 ∨ k1 = 2 := (by omega)); (rcases a1 with rfl | rfl | rfl) <;> (first | exact std0 | exact std1)) | ((have a1 : k1 = 0 ∨ k1 = 1 ∨ k1 = 2 := (by omega)); (have a2 : k2 = 0 ∨ k2 = 1 ∨ k2 = 2 := (by omega)); (rcases a1 with rfl | rfl | rfl) <;> (rcases a2 with rfl | rfl | rfl) <;> (first | exact std0 | exact std1))) (by exact rfl) ?_)
 refine WQ.e2 0 1 (v := .any) (d := none) rfl (by decide +kernel) rfl ?_ ?_
 · intro env' he k1 _ hk1
   have hk : k1 = 0 ∨ k1 = 1 := by omega
   rcases hk with rfl | rfl
   all_goals exact EStep.storeW tabOk rfl rfl ((rdv_congr (he 12 (by decide +kernel))).trans rfl) (by rw [rdn_congr (he 12 (by decide +kernel))]; first | exact True.intro | exact rfl) rfl ((rdv_congr (he 5 (by decide +kernel))).trans rfl) (by rw [rdn_congr (he 5 (by decide +kernel))]; first | exact True.intro | exact rfl) rfl rfl rfl rfl rfl rfl rfl ⟨rfl, rfl⟩
 repeat' (first
  | refine WQ.q rfl (by decide +kernel) rfl rfl (fun k1 k2 h1 h2 hg => by first | (first | exact std0 | exact std1) | ((have a1 : k1 = 0 ∨ k1 = 1 ∨ k1 = 2 := (by omega)); (rcases a1 with rfl | rfl | rfl) <;> (first | exact std0 | exact std1)) | ((have a1 : k1 = 0 ∨ k1 = 1 ∨ k1 = 2 := (by omega)); (have a2 : k2 = 0 ∨ k2 = 1 ∨ k2 = 2 := (by omega)); (rcases a1 with rfl | rfl | rfl) <;> (rcases a2 with rfl | rfl | rfl) <;> (first | exact std0 | exact std1))) (by exact rfl) ?_)
 refine WQ.e2 0 1 (v := .any) (d := none) rfl (by decide +kernel) rfl ?_ ?_
 · intro env' he k1 _ hk1
   have hk : k1 = 0 ∨ k1 = 1 := by omega
   rcases hk with rfl | rfl
   all_goals exact EStep.storeW tabOk rfl rfl ((rdv_congr (he 13 (by decide +kernel))).trans rfl) (by rw [rdn_congr (he 13 (by decide +kernel))]; first | exact True.intro | exact rfl) rfl ((rdv_congr (he 8 (by decide +kernel))).trans rfl) (by rw [rdn_congr (he 8 (by decide +kernel))]; first | exact True.intro | exact rfl) rfl rfl rfl rfl rfl rfl rfl ⟨rfl, rfl⟩
 repeat' (first
  | refine WQ.q rfl (by decide +kernel) rfl rfl (fun k1 k2 h1 h2 hg => by first | (first | exact std0 | exact std1) | ((have a1 : k1 = 0 ∨ k1 = 1 ∨ k1 = 2 := (by omega)); (rcases a1 with rfl | rfl | rfl) <;> (first | exact std0 | exact std1)) | ((have a1 : k1 = 0 ∨ k1 = 1 ∨ k1 = 2 := (by omega)); (have a2 : k2 = 0 ∨ k2 = 1 ∨ k2 = 2 := (by omega)); (rcases a1 with rfl | rfl | rfl) <;> (rcases a2 with rfl | rfl | rfl) <;> (first | exact std0 | exact std1))) (by exact rfl) ?_)
 refine WQ.e2 1 1 (v := .any) (d := none) rfl (by decide +kernel) rfl ?_ ?_
 · intro env' he k1 hk0 hk1
   obtain rfl : k1 = 1 := by omega
   rcases hpr with rfl | ⟨n, rfl⟩
   all_goals exact EStep.storeW tabOk rfl rfl ((rdv_congr (he 14 (by decide +kernel))).trans rfl) (by rw [rdn_congr (he 14 (by decide +kernel))]; first | exact True.intro | exact rfl) rfl ((rdv_congr (he 11 (by decide +kernel))).trans rfl) (by rw [rdn_congr (he 11 (by decide +kernel))]; first | exact True.intro | exact rfl) rfl rfl rfl rfl rfl rfl rfl ⟨rfl, rfl⟩
 refine WQ.nil (hK _ _ _ ?_)
 clear hK K'
 show AWP _ _ _ _ _ ([o0, o1, o2, .var (encFc f c), .var zF] ++ more)
 rcases hpr with rfl | ⟨n, rfl⟩
 · repeat' (first | refine AOps.q rfl rfl rfl (fun hg => by exact std0) (by exact rfl) ?_ | refine AWP.seq ?_ | refine AWP.regionK (fun K' hK => ?_) | (refine AOps.nil (hK _ _ ?_); clear hK K') | refine AOps.e (EStep.storeW tabOk rfl rfl rfl True.intro rfl rfl True.intro rfl rfl rfl rfl rfl rfl rfl ?_) | refine AWP.ret ?_)
   exact ⟨.inr rfl, _, [o0, o1, o2, .var (encFc f (.sl 3 [] .fresh)), .var (encFc f (.sl 3 [] .fresh))] ++ more, ⟨rfl, rfl⟩, List.take_length, by simp, hok, hr, rfl⟩
 · repeat' (first | refine AOps.q rfl rfl rfl (fun hg => by exact std0) (by exact rfl) ?_ | refine AWP.seq ?_ | refine AWP.regionK (fun K' hK => ?_) | (refine AOps.nil (hK _ _ ?_); clear hK K') | refine AOps.e (EStep.storeW tabOk rfl rfl rfl True.intro rfl rfl True.intro rfl rfl rfl rfl rfl rfl rfl ?_) | refine AWP.ret ?_)
   exact ⟨.inr rfl, _, [o0, o1, o2, .var (encFc f (.sla 5 3 0 n 0)), .var (encFc f (.sla 5 3 0 n 0))] ++ more, ⟨rfl, rfl⟩, List.take_length, by simp, hok, hr, rfl⟩
theorem copied_T0 (f : PForm) (hf : FIn f) (hc0 : f.cuts = []) {o0 o1 o2 : AObj} (ho : ∀ o ∈ [o0, o1, o2], OkA o) : TCall Tryz.prog 86 [.agg (encF f)] [o0, o1, o2]
 (fun r s => r = .agg (encFc f (.sl 3 [] .fresh)) ∧ s = [o0, o1, o2, .var (encFc f (.sl 3 [] .fresh)), .var (encFc f (.sl 3 [] .fresh))]) := by
 have ho5 : ∀ o ∈ [o0, o1, o2, .var (encF f), .var zF], OkA o := fun o h => by
  rcases List.mem_append.1 (show o ∈ [o0, o1, o2] ++ [.var (encF f), .var zF] from h) with h | h
  · exact ho o h
  · rcases List.mem_cons.1 h with h | h
    · rw [h]; exact okF f
    · rw [List.mem_singleton.1 h]; exact fun m => rfl
 have w3 := TCall.val (first := []) (caps := []) (avs := [.sl 3 (f.cuts.map encCt) .no]) (by rw [hc0]; exact cloneC0_T ho5)
 have e5 : ∀ m, okObj m (.var (encFc f (.sl 3 [] .fresh))) = true := fun m => by simp [okObj, encFc, okRef, encRp, encEn]
 refine copied_gen f hf (.sl 3 [] .fresh) [] (.inl rfl) ?_ w3 (by simp [okRef, encFc, encRp, encEn])
 have e1 := ho o0 (by simp) 5
 have e2 := ho o1 (by simp) 5
 have e3 := ho o2 (by simp) 5
 show ([o0, o1, o2, .var (encFc f (.sl 3 [] .fresh)), .var (encFc f (.sl 3 [] .fresh))] : Store).all (okObj 5) = true
 simp only [List.all_cons, List.all_nil, e1, e2, e3, e5]; rfl
theorem copied_T (f : PForm) (hf : FIn f) (hl : f.cuts.length ≤ 1000000) (hne : f.cuts ≠ []) {o0 o1 o2 : AObj} (ho : ∀ o ∈ [o0, o1, o2], OkA o) : TCall Tryz.prog 86 [.agg (encF f)] [o0, o1, o2]
 (fun r s => r = .agg (encFc f (.sla 5 3 0 f.cuts.length 0)) ∧ s = [o0, o1, o2, .var (encFc f (.sla 5 3 0 f.cuts.length 0)), .var (encFc f (.sla 5 3 0 f.cuts.length 0)), .arr 3 0 (f.cuts.map encCt)]) := by
 have ho5 : ∀ o ∈ [o0, o1, o2, .var (encF f), .var zF], OkA o := fun o h => by
  rcases List.mem_append.1 (show o ∈ [o0, o1, o2] ++ [.var (encF f), .var zF] from h) with h | h
  · exact ho o h
  · rcases List.mem_cons.1 h with h | h
    · rw [h]; exact okF f
    · rw [List.mem_singleton.1 h]; exact fun m => rfl
 have w3 := TCall.val (first := []) (caps := []) (avs := [.sl 3 (f.cuts.map encCt) .no]) (cloneC_T hl hne ho5)
 refine copied_gen f hf (.sla 5 3 0 f.cuts.length 0) [.arr 3 0 (f.cuts.map encCt)] (.inr ⟨_, rfl⟩) ?_ w3 (by simp [okRef, encFc, encRp, encEn])
 have e1 := ho o0 (by simp) 6
 have e2 := ho o1 (by simp) 6
 have e3 := ho o2 (by simp) 6
 have e4 := okArrC f.cuts 6
 have e5 : okObj 6 (.var (encFc f (.sla 5 3 0 f.cuts.length 0))) = true := by simp [okObj, encFc, okRef, encRp, encEn]
 show ([o0, o1, o2, .var (encFc f (.sla 5 3 0 f.cuts.length 0)), .var (encFc f (.sla 5 3 0 f.cuts.length 0)), .arr 3 0 (f.cuts.map encCt)] : Store).all (okObj 6) = true
 simp only [List.all_cons, List.all_nil, e1, e2, e3, e4, e5]; rfl
end Go.Proofs.YtdglbdfdkabjfaaGreatDoor.Pl
