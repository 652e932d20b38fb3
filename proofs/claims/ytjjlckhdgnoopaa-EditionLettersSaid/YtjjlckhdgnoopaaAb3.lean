/- Layout tables, and the rules for the quiet operations. -/
import Derived.Test.YtjjlckhdgnoopaaAb2
import Derived.Laws.Cells
namespace Go.Ab

/-! ### Types, as a table -/
inductive Z where
  | i (k : IntKind) | bool | str | slice | ptr | map | func | iface
  deriving DecidableEq

def Z.val : Z → Value
  | .i k => .int k 0 | .bool => .bool false | .str => .string ⟨#[]⟩ | .slice => .slice none 0 0 | .ptr => .pointer none | .map => .map none | .func => .nilFunc | .iface => .nilIface
def Z.av : Z → AV
  | .slice => .nils | .map => .imap [] | z => .prim z.val

inductive LT where
  | bool | int (k : IntKind) | str
  | struct (fs : List (Nat × Nat × Nat))
  | arr (n : Nat) (e : TypeId)
  | slice (e : TypeId) | map (k e : TypeId) | ptr (e : TypeId) | func | iface | other
  deriving DecidableEq

structure LI where
  lt : LT
  size : Nat
  bytes : Nat
  zero : List Z
  deriving DecidableEq

def ltOf (P : Program) : TypeDesc → LT
  | .bool => .bool | .int k => .int k | .string => .str
  | .struct F => .struct (F.toList.map fun f => (f.type, f.offset, ((P.info? f.type).map (·.size)).getD 0))
  | .array n e => .arr n e | .slice e => .slice e | .map k e => .map k e | .pointer e => .ptr e | .func _ _ _ => .func | .interface _ => .iface
  | _ => .other

def LT.isAgg : LT → Bool
  | .struct _ | .arr _ _ => true
  | _ => false

def zOf : Value → Option Z
  | .int k 0 => some (.i k) | .bool false => some .bool | .string s => if s.data.size = 0 then some .str else none
  | .slice none 0 0 => some .slice | .pointer none => some .ptr | .map none => some .map | .nilFunc => some .func | .nilIface => some .iface
  | _ => none

def zsOf : List Value → Option (List Z)
  | [] => some []
  | v :: r => match zOf v, zsOf r with | some z, some zs => some (z :: zs) | _, _ => none

/-- The row of a type, as the program has it. -/
def liOf (P : Program) (t : TypeId) : Option LI :=
  match P.underlying t, P.info? t with
  | some d, some i =>
    match i.zero with
    | some v => match (if (ltOf P d).isAgg then (match v with | .agg cs => zsOf cs.toList | _ => none) else (zOf v).map ([·])) with
      | some zs => some { lt := ltOf P d, size := i.size, bytes := i.bytes, zero := zs }
      | none => none
    | none => none
  | _, _ => none

abbrev Tab := List (Nat × LI)
def Tab.get (T : Tab) (t : Nat) : Option LI := (T.find? (fun p => p.1 == t)).map (·.2)
/-- The table tells the truth of the program. -/
def Tab.Ok (T : Tab) (P : Program) : Prop := ∀ p ∈ T, liOf P p.1 = some p.2
def Tab.okB (T : Tab) (P : Program) : Bool := T.all fun p => liOf P p.1 == some p.2
theorem Tab.ok_of (T : Tab) (P : Program) (h : T.okB P = true) : T.Ok P := fun p hp => by
  have := List.all_eq_true.1 h p hp
  simpa using this
theorem Tab.Ok.get {T : Tab} {P : Program} (h : T.Ok P) {t : Nat} {li : LI} (hg : T.get t = some li) : liOf P t = some li := by
  unfold Tab.get at hg
  cases hf : T.find? (fun p => p.1 == t) with
  | none => simp [hf] at hg
  | some p =>
    simp only [hf, Option.map_some, Option.some.injEq] at hg
    have h1 := List.find?_some hf
    have h2 := List.mem_of_find?_eq_some hf
    simp only [beq_iff_eq] at h1
    rw [← h1, ← hg]
    exact h p h2

theorem zOf_spec {v : Value} {z : Z} (h : zOf v = some z) : v = z.val := by
  unfold zOf at h
  split at h <;> simp at h <;> try (subst h; rfl)
  · rename_i s
    obtain ⟨h1, rfl⟩ := h
    rw [h1]; rfl

theorem zsOf_spec : ∀ {l : List Value} {zs : List Z}, zsOf l = some zs → l = zs.map Z.val
  | [], zs, h => by simp [zsOf] at h; subst h; rfl
  | v :: r, zs, h => by
    unfold zsOf at h
    split at h
    · rename_i z zs' h1 h2
      simp at h; subst h
      rw [zOf_spec h1, zsOf_spec h2]; rfl
    · simp at h

structure LOk (P : Program) (t : TypeId) (li : LI) : Prop where
  und : ∃ d, P.underlying t = some d ∧ ltOf P d = li.lt
  info : ∃ i, P.info? t = some i ∧ i.size = li.size ∧ i.bytes = li.bytes ∧ i.zero = some (if li.lt.isAgg then .agg (li.zero.map Z.val).toArray else (li.zero.map Z.val).headD undef)
  one : li.lt.isAgg = false → ∃ z, li.zero = [z]

theorem LOk.of {P : Program} {t : TypeId} {li : LI} (h : liOf P t = some li) : LOk P t li := by
  unfold liOf at h
  split at h <;> try (simp at h; done)
  rename_i d i hd hi
  split at h <;> try (simp at h; done)
  rename_i v hv
  split at h <;> try (simp at h; done)
  rename_i zs hz
  simp only [Option.some.injEq] at h
  subst h
  by_cases ha : (ltOf P d).isAgg = true
  · refine ⟨⟨d, hd, rfl⟩, ⟨i, hi, rfl, rfl, ?_⟩, fun hn => by simp [ha] at hn⟩
    rw [if_pos ha] at hz ⊢
    cases v <;> simp at hz
    rename_i cs
    rw [hv, ← zsOf_spec hz]
  · refine ⟨⟨d, hd, rfl⟩, ⟨i, hi, rfl, rfl, ?_⟩, fun _ => ?_⟩
    · simp only [Bool.not_eq_true] at ha
      simp only [ha, Bool.false_eq_true, if_false] at hz ⊢
      cases hzz : zOf v with
      | none => simp [hzz] at hz
      | some z => simp [hzz] at hz; subst hz; rw [hv, zOf_spec hzz]; rfl
    · simp only [Bool.not_eq_true] at ha
      simp only [ha, Bool.false_eq_true, if_false] at hz
      cases hzz : zOf v with
      | none => simp [hzz] at hz
      | some z => simp [hzz] at hz; exact ⟨z, hz.symm⟩

section
variable {P : Program}
theorem LOk.run_und {t : TypeId} {li : LI} (h : LOk P t li) (w : World) : ∃ d, (underlying t).run P w = .ok d w ∧ ltOf P d = li.lt := by
  obtain ⟨d, h1, h2⟩ := h.und
  exact ⟨d, run_underlying h1 w, h2⟩
theorem LOk.run_size {t : TypeId} {li : LI} (h : LOk P t li) (w : World) : (sizeOf t).run P w = .ok li.size w := by
  obtain ⟨i, h1, h2, _⟩ := h.info
  simp [sizeOf, typeInfo, h1, h2]
theorem LOk.run_isAgg {t : TypeId} {li : LI} (h : LOk P t li) (w : World) : (isAgg t).run P w = .ok li.lt.isAgg w := by
  obtain ⟨d, h1, h2⟩ := h.run_und w
  unfold isAgg
  rw [Sem.run_bind, h1, ← h2]
  cases d <;> rfl
def LI.zeroVal (li : LI) : Value := if li.lt.isAgg then .agg (li.zero.map Z.val).toArray else (li.zero.map Z.val).headD undef
theorem LOk.run_zero {t : TypeId} {li : LI} (h : LOk P t li) (w : World) : (zeroValue t).run P w = .ok li.zeroVal w := by
  obtain ⟨i, h1, _, _, h2⟩ := h.info
  simp [zeroValue, typeInfo, h1, h2, LI.zeroVal]
theorem LOk.run_info {t : TypeId} {li : LI} (h : LOk P t li) (w : World) : ∃ i, (typeInfo t).run P w = .ok i w ∧ i.bytes = li.bytes ∧ i.size = li.size := by
  obtain ⟨i, h1, h2, h3, _⟩ := h.info
  exact ⟨i, by simp [typeInfo, h1], h3, h2⟩
theorem LOk.struct {t : TypeId} {fs : List (Nat × Nat × Nat)} {sz by' : Nat} {z : List Z} (h : LOk P t ⟨.struct fs, sz, by', z⟩) (w : World) :
    ∃ F : Array Field, (underlying t).run P w = .ok (.struct F) w ∧ ∀ (k ft off s : Nat), fs[k]? = some (ft, off, s) → ∃ f : Field, F[k]? = some f ∧ f.type = ft ∧ f.offset = off ∧ ((P.info? ft).map (·.size)).getD 0 = s := by
  obtain ⟨d, h1, h2⟩ := h.und
  cases d <;> simp [ltOf] at h2
  rename_i F
  refine ⟨F, run_underlying h1 w, fun k ft off s hk => ?_⟩
  subst h2
  simp only [List.getElem?_map, Array.getElem?_toList, Option.map_eq_some_iff, Prod.mk.injEq] at hk
  obtain ⟨f, hf, h1, h2, h3⟩ := hk
  exact ⟨f, hf, h1, h2, by rw [← h1]; exact h3⟩
theorem LOk.slice {t e : TypeId} {sz by' : Nat} {z : List Z} (h : LOk P t ⟨.slice e, sz, by', z⟩) (w : World) : (underlying t).run P w = .ok (.slice e) w := by
  obtain ⟨d, h1, h2⟩ := h.und
  cases d <;> simp [ltOf] at h2
  subst h2; exact run_underlying h1 w
theorem LOk.arr {t e n : Nat} {sz by' : Nat} {z : List Z} (h : LOk P t ⟨.arr n e, sz, by', z⟩) (w : World) : (underlying t).run P w = .ok (.array n e) w := by
  obtain ⟨d, h1, h2⟩ := h.und
  cases d <;> simp [ltOf] at h2
  obtain ⟨rfl, rfl⟩ := h2; exact run_underlying h1 w
theorem LOk.mapT {t k e : TypeId} {sz by' : Nat} {z : List Z} (h : LOk P t ⟨.map k e, sz, by', z⟩) (w : World) : (underlying t).run P w = .ok (.map k e) w := by
  obtain ⟨d, h1, h2⟩ := h.und
  cases d <;> simp [ltOf] at h2
  obtain ⟨rfl, rfl⟩ := h2; exact run_underlying h1 w
theorem LOk.intT {t : TypeId} {k : IntKind} {sz by' : Nat} {z : List Z} (h : LOk P t ⟨.int k, sz, by', z⟩) (w : World) : (underlying t).run P w = .ok (.int k) w := by
  obtain ⟨d, h1, h2⟩ := h.und
  cases d <;> simp [ltOf] at h2
  subst h2; exact run_underlying h1 w
theorem LOk.strT {t : TypeId} {sz by' : Nat} {z : List Z} (h : LOk P t ⟨.str, sz, by', z⟩) (w : World) : (underlying t).run P w = .ok .string w := by
  obtain ⟨d, h1, h2⟩ := h.und
  cases d <;> simp [ltOf] at h2
  exact run_underlying h1 w
theorem LOk.boolT {t : TypeId} {sz by' : Nat} {z : List Z} (h : LOk P t ⟨.bool, sz, by', z⟩) (w : World) : (underlying t).run P w = .ok .bool w := by
  obtain ⟨d, h1, h2⟩ := h.und
  cases d <;> simp [ltOf] at h2
  exact run_underlying h1 w
end

/-! ### Operands -/
def ofScalar : Value → AV
  | .slice none 0 0 => .nils
  | .map none => .imap []
  | v => .prim v
def ofConst : Value → AV
  | .agg cs => .agg (cs.toList.map ofScalar)
  | v => ofScalar v
theorem ofScalar_rel (M : Mem) (B : List GB) (v : Value) : VRel M B (ofScalar v) v := by
  unfold ofScalar
  split
  · exact .nils
  · exact .imapz
  · exact .prim _
theorem ofConst_rel (M : Mem) (B : List GB) (v : Value) : VRel M B (ofConst v) v := by
  unfold ofConst
  split
  · rename_i cs
    refine .agg _ _ (by simp) fun i c hi => ?_
    simp only [List.getElem?_map, Array.getElem?_toList, Option.map_eq_some_iff] at hi
    obtain ⟨v, hv, rfl⟩ := hi
    have : cs.getD i undef = v := by simp [hv]
    rw [this]; exact ofScalar_rel M B v
  · exact ofScalar_rel M B _

def envOp (env : Env) : Operand → AV
  | .tmp t => env t
  | .const v => ofConst v
  | .func f => .fn (.func f) [] []
  | .global _ => .any

/-- What is known of an operand. -/
def Rd (env : Env) (x : Operand) (u : AV) : Prop := ∀ M B y, VRel M B (envOp env x) y → VRel M B u y
theorem Rd.is {env : Env} {x : Operand} {u : AV} (h : envOp env x = u) : Rd env x u := fun _ _ _ hy => h ▸ hy
theorem Rd.when {env : Env} {x : Operand} {g : Bool} {u : AV} (h : envOp env x = .when g u) (hg : g = true) : Rd env x u := fun _ _ y hy => by
  rw [h] at hy
  cases hy
  rename_i h2 h'
  exact h' hg

/-- What an operation runs to, from what is known of its operands; the objects stay. -/
def PRun (P : Program) (o : Oper) (env : Env) (σ : Store) (v : AV) : Prop :=
  ∀ (G : Gh) (a : Act) (w : World), SRel G σ w → (∀ x, .tmp x ∈ o.op.operands → VRel G.M G.B (env x) (a.tmps.getD x undef)) →
    o.wp P a w (fun a' w' => ∃ x G', a' = a.put o.dst x ∧ VRel G'.M G'.B v x ∧ G.Le G' ∧ SRel G' σ w') noQ

theorem rd {env : Env} {x : Operand} {u : AV} (h : Rd env x u) {o : Oper} {M : Mem} {B : List GB} {a : Act} (hx : x ∈ o.op.operands)
    (hv : ∀ x, .tmp x ∈ o.op.operands → VRel M B (env x) (a.tmps.getD x undef)) : VRel M B u (a.eval x) := by
  apply h
  cases x with
  | tmp t => exact hv t hx
  | const v => exact ofConst_rel M B v
  | global g => exact .any _
  | func f => exact .fn _ _ _ _ _ rfl rfl (fun i c h => by simp at h) (fun i c h => by simp at h)

theorem looks_of {o : Oper} {ops : Array Oper} {x : Nat} (h : .tmp x ∈ o.op.operands) : x ∈ o.looksAt ops :=
  List.mem_append_left _ (List.mem_filterMap.2 ⟨.tmp x, by simpa using h, rfl⟩)

theorem PStep.plain {P : Program} {ops : Array Oper} {o : Oper} {env : Env} {σ : Store} {v : AV} (hg : o.guard = none) (h : PRun P o env σ v) : PStep P ops o env σ v := by
  intro G a w hs hv
  rw [if_pos (by simp [Region.wanted, hg])]
  exact h G a w hs fun x hx => hv x (looks_of hx)

/-- A guarded operation: it runs where the guard's operation left 'want'. -/
theorem PStep.guarded {P : Program} {ops : Array Oper} {o : Oper} {env : Env} {σ : Store} {v : AV} {j d : Nat} {want t : Bool} (hg : o.guard = some (j, want)) (hd : (ops[j]?).bind (·.dst) = some d)
    (ht : ∀ M B z, VRel M B (env d) z → z = .bool t) (h : (t == want) = true → PRun P o env σ v) : PStep P ops o env σ (.when (t == want) v) := by
  intro G a w hs hv
  have hz := ht _ _ _ (hv d (List.mem_append_right _ (by simp [hg, hd])))
  have hw : Region.wanted o (yielded ops a.tmps) = (t == want) := by
    simp only [Region.wanted, hg, yielded, hd, Option.bind_some]
    have : a.tmps[d]? = some (.bool t) := by
      cases h : a.tmps[d]? with
      | none => simp [h, undef] at hz
      | some y => simp [h] at hz; rw [hz]
    simp only [this]
    cases t <;> cases want <;> rfl
  rw [hw]
  split
  · rename_i htw
    refine Oper.wp_mono (fun a' w' ⟨x, G', h1, h2, h3⟩ => ⟨x, G', h1, .when _ _ _ (fun _ => h2) (fun e => by rw [htw] at e; cases e), h3⟩) (h htw G a w hs fun x hx => hv x (looks_of hx))
  · rename_i htw
    exact .when _ _ _ (fun e => absurd e htw) fun _ => rfl

theorem bool_of_prim {env : Env} {d : Nat} {t : Bool} (h : env d = .b t) : ∀ M B z, VRel M B (env d) z → z = .bool t := by
  intro M B z hz; rw [h] at hz; cases hz; rfl
theorem bool_of_when {env : Env} {d : Nat} {t g : Bool} (h : env d = .when g (.b t)) (hg : g = true) : ∀ M B z, VRel M B (env d) z → z = .bool t := by
  intro M B z hz; rw [h] at hz; cases hz; rename_i h2 h'; have := h' hg; cases this; rfl

theorem PRun.of {P : Program} {o : Oper} {env : Env} {σ : Store} {v : AV}
    (h : ∀ (G : Gh) (a : Act) (w : World), SRel G σ w → (∀ x, .tmp x ∈ o.op.operands → VRel G.M G.B (env x) (a.tmps.getD x undef)) → ∃ x, (execOp a.eval o).run P w = .ok (.value x) w ∧ VRel G.M G.B v x) : PRun P o env σ v := by
  intro G a w hs hv
  obtain ⟨x, h1, h2⟩ := h G a w hs hv
  unfold Oper.wp
  rw [h1]
  exact ⟨x, G, rfl, h2, Gh.Le.refl G, hs⟩

section
variable {P : Program} {o : Oper} {env : Env} {σ : Store}

theorem PRun.move {x : Operand} {u : AV} (ho : o.op = .move x) (hx : Rd env x u) : PRun P o env σ u :=
  .of fun G a w hs hv => ⟨a.eval x, by simp [execOp, ho], rd hx (by simp [ho, Op.operands]) hv⟩
theorem PRun.assign {x : Operand} {u : AV} (ho : o.op = .assign x) (hx : Rd env x u) : PRun P o env σ u :=
  .of fun G a w hs hv => ⟨a.eval x, by simp [execOp, ho], rd hx (by simp [ho, Op.operands]) hv⟩

theorem VRel.prim_eq {M : Mem} {B : List GB} {v x : Value} (h : VRel M B (.prim v) x) : x = v := by cases h; rfl

theorem eval_const (a : Act) (v : Value) : a.eval (.const v) = v := rfl
/-- c && y -/
theorem PRun.pickAnd {c x : Operand} {t u : Bool} (ho : o.op = .pick c x (.const (.bool false))) (hc : Rd env c (.b t)) (hx : t = true → Rd env x (.b u)) : PRun P o env σ (.b (t && u)) :=
  .of fun G a w hs hv => by
    have h1 := VRel.prim_eq (rd hc (by simp [ho, Op.operands]) hv)
    cases t with
    | false => exact ⟨.bool false, by simp [execOp, ho, h1, asBool, eval_const], .prim _⟩
    | true =>
      have h2 := VRel.prim_eq (rd (hx rfl) (by simp [ho, Op.operands]) hv)
      exact ⟨.bool u, by simp [execOp, ho, h1, h2, asBool], by simpa using VRel.prim _⟩
/-- c || y -/
theorem PRun.pickOr {c x : Operand} {t u : Bool} (ho : o.op = .pick c (.const (.bool true)) x) (hc : Rd env c (.b t)) (hx : t = false → Rd env x (.b u)) : PRun P o env σ (.b (t || u)) :=
  .of fun G a w hs hv => by
    have h1 := VRel.prim_eq (rd hc (by simp [ho, Op.operands]) hv)
    cases t with
    | true => exact ⟨.bool true, by simp [execOp, ho, h1, asBool, eval_const], .prim _⟩
    | false =>
      have h2 := VRel.prim_eq (rd (hx rfl) (by simp [ho, Op.operands]) hv)
      exact ⟨.bool u, by simp [execOp, ho, h1, h2, asBool], by simpa using VRel.prim _⟩

/-- What a binary operator gives on scalars. -/
def binPrim : BinOp → Value → Value → Option Value
  | .add, .int k a, .int k' b => if k = k' then some (.int k (k.wrap (a + b))) else none
  | .sub, .int k a, .int k' b => if k = k' then some (.int k (k.wrap (a - b))) else none
  | .mul, .int k a, .int k' b => if k = k' then some (.int k (k.wrap (a * b))) else none
  | .eql, .int k a, .int k' b => if k = k' then some (.bool (a == b)) else none
  | .neq, .int k a, .int k' b => if k = k' then some (.bool (a != b)) else none
  | .lss, .int k a, .int k' b => if k = k' then some (.bool (a < b)) else none
  | .leq, .int k a, .int k' b => if k = k' then some (.bool (a ≤ b)) else none
  | .gtr, .int k a, .int k' b => if k = k' then some (.bool (a > b)) else none
  | .geq, .int k a, .int k' b => if k = k' then some (.bool (a ≥ b)) else none
  | .eql, .string a, .string b => some (.bool (a.toList == b.toList))
  | .neq, .string a, .string b => some (.bool !(a.toList == b.toList))
  | .lss, .string a, .string b => some (.bool (Op.bytesLess a.toList b.toList))
  | _, _, _ => none

theorem PRun.bin {op : BinOp} {t t' : TypeId} {x y : Operand} {vx vy r : Value} (ho : o.op = .binOp op t x y t') (hx : Rd env x (.prim vx)) (hy : Rd env y (.prim vy)) (hr : binPrim op vx vy = some r) :
    PRun P o env σ (.prim r) :=
  .of fun G a w hs hv => by
    have h1 := VRel.prim_eq (rd hx (by simp [ho, Op.operands]) hv)
    have h2 := VRel.prim_eq (rd hy (by simp [ho, Op.operands]) hv)
    refine ⟨r, ?_, .prim _⟩
    unfold binPrim at hr
    split at hr <;> first
      | (simp at hr; done)
      | (split at hr <;> simp at hr; subst hr; rename_i hk; subst hk
         simp [execOp, ho, h1, h2, binOp, eqGuard, Op.intArith, Op.intCmp])
      | (simp at hr; subst hr; simp [execOp, ho, h1, h2, binOp, eqGuard, Op.stringOp])

theorem PRun.quo {t t' : TypeId} {x y : Operand} {k : IntKind} {a b : Int} (ho : o.op = .binOp .quo t x y t') (hx : Rd env x (.prim (.int k a))) (hy : Rd env y (.prim (.int k b))) (hb : b ≠ 0) :
    PRun P o env σ (.prim (.int k (k.wrap (a.tdiv b)))) :=
  .of fun G A w hs hv => by
    have h1 := VRel.prim_eq (rd hx (by simp [ho, Op.operands]) hv)
    have h2 := VRel.prim_eq (rd hy (by simp [ho, Op.operands]) hv)
    exact ⟨_, by simp [execOp, ho, h1, h2, binOp, eqGuard, Op.intDiv, hb], .prim _⟩
theorem PRun.rem {t t' : TypeId} {x y : Operand} {k : IntKind} {a b : Int} (ho : o.op = .binOp .rem t x y t') (hx : Rd env x (.prim (.int k a))) (hy : Rd env y (.prim (.int k b))) (hb : b ≠ 0) :
    PRun P o env σ (.prim (.int k (a.tmod b))) :=
  .of fun G A w hs hv => by
    have h1 := VRel.prim_eq (rd hx (by simp [ho, Op.operands]) hv)
    have h2 := VRel.prim_eq (rd hy (by simp [ho, Op.operands]) hv)
    exact ⟨_, by simp [execOp, ho, h1, h2, binOp, eqGuard, Op.intDiv, hb], .prim _⟩
theorem PRun.cat {t t' : TypeId} {x y : Operand} {a b : ByteArray} (ho : o.op = .binOp .add t x y t') (hx : Rd env x (.str a)) (hy : Rd env y (.str b)) (hb : a.size + b.size ≤ 9223372036854775807) :
    PRun P o env σ (.str (a ++ b)) :=
  .of fun G A w hs hv => by
    have h1 := VRel.prim_eq (rd hx (by simp [ho, Op.operands]) hv)
    have h2 := VRel.prim_eq (rd hy (by simp [ho, Op.operands]) hv)
    refine ⟨_, ?_, .prim _⟩
    have : ¬ (((a.size + b.size : Nat) : Int) > IntKind.i64.max) := by
      have : IntKind.i64.max = 9223372036854775807 := by decide
      rw [this]; omega
    simp only [execOp, ho, h1, h2, binOp, eqGuard, Op.stringOp, if_neg this]
    simp
theorem run_equal_bool {t : TypeId} {a b : Bool} {sz by' : Nat} {z : List Z} (hl : LOk P t ⟨.bool, sz, by', z⟩) (w : World) : (Op.equal t (.bool a) (.bool b)).run P w = .ok (a == b) w := by
  show (Op.equalIn (9999 + 1) t (.bool a) (.bool b)).run P w = _
  rw [Op.equalIn, Sem.run_bind, hl.boolT w]
  rfl
theorem PRun.eqBool {t t' : TypeId} {x y : Operand} {a b : Bool} {sz by' : Nat} {z : List Z} (ho : o.op = .binOp .eql t x y t') (hx : Rd env x (.b a)) (hy : Rd env y (.b b)) (hl : LOk P t ⟨.bool, sz, by', z⟩) :
    PRun P o env σ (.b (a == b)) :=
  .of fun G A w hs hv => by
    have h1 := VRel.prim_eq (rd hx (by simp [ho, Op.operands]) hv)
    have h2 := VRel.prim_eq (rd hy (by simp [ho, Op.operands]) hv)
    refine ⟨_, ?_, .prim _⟩
    have e : binOp .eql t (.bool a) (.bool b) = (do pure (.bool (← Op.equal t (.bool a) (.bool b)))) := rfl
    simp only [execOp, ho, h1, h2, e]
    simp [eqGuard, run_equal_bool hl w]
theorem PRun.neBool {t t' : TypeId} {x y : Operand} {a b : Bool} {sz by' : Nat} {z : List Z} (ho : o.op = .binOp .neq t x y t') (hx : Rd env x (.b a)) (hy : Rd env y (.b b)) (hl : LOk P t ⟨.bool, sz, by', z⟩) :
    PRun P o env σ (.b (a != b)) :=
  .of fun G A w hs hv => by
    have h1 := VRel.prim_eq (rd hx (by simp [ho, Op.operands]) hv)
    have h2 := VRel.prim_eq (rd hy (by simp [ho, Op.operands]) hv)
    refine ⟨_, ?_, .prim _⟩
    have e : binOp .neq t (.bool a) (.bool b) = (do pure (.bool (!(← Op.equal t (.bool a) (.bool b))))) := rfl
    simp only [execOp, ho, h1, h2, e]
    simp [eqGuard, run_equal_bool hl w, bne]

theorem PRun.not {t : TypeId} {x : Operand} {a : Bool} (ho : o.op = .unOp .not t x) (hx : Rd env x (.b a)) : PRun P o env σ (.b (!a)) :=
  .of fun G A w hs hv => by
    have h1 := VRel.prim_eq (rd hx (by simp [ho, Op.operands]) hv)
    exact ⟨_, by simp [execOp, ho, h1, Op.unary], .prim _⟩
theorem PRun.neg {t : TypeId} {x : Operand} {k : IntKind} {a : Int} (ho : o.op = .unOp .neg t x) (hx : Rd env x (.prim (.int k a))) : PRun P o env σ (.prim (.int k (k.wrap (0 - a)))) :=
  .of fun G A w hs hv => by
    have h1 := VRel.prim_eq (rd hx (by simp [ho, Op.operands]) hv)
    exact ⟨_, by simp [execOp, ho, h1, Op.unary, Op.intArith], .prim _⟩
theorem PRun.conv {s d : TypeId} {x : Operand} {k k' : IntKind} {a : Int} {lis : LI} {sz by' : Nat} {z : List Z} (ho : o.op = .convert s d x) (hx : Rd env x (.prim (.int k a))) (hs' : LOk P s lis) (hl : LOk P d ⟨.int k', sz, by', z⟩) :
    PRun P o env σ (.prim (.int k' (k'.wrap a))) :=
  .of fun G A w hs hv => by
    have h1 := VRel.prim_eq (rd hx (by simp [ho, Op.operands]) hv)
    obtain ⟨d', h2, _⟩ := hs'.run_und w
    refine ⟨.int k' (k'.wrap a), ?_, .prim _⟩
    simp [execOp, ho, h1, convert, h2, hl.intT w, Conv.intToInt]

/-- len of a slice -/
theorem PRun.len {t : TypeId} {x : Operand} {sz : Nat} {es : List (List AV)} {tk : Tok} {T : TypeId} {ty : TypeId} {s1 b1 : Nat} {z : List Z} (ho : o.op = .call { callee := .builtin .len, args := #[x], argTypes := #[T] })
    (hx : Rd env x (.sl sz es tk)) (hl : LOk P T ⟨.slice ty, s1, b1, z⟩) : PRun P o env σ (.int es.length) :=
  .of fun G A w hs hv => by
    have h1 := rd hx (by simp [ho, Op.operands, Call.operands]) hv
    generalize hA : A.eval x = y at h1
    cases h1 with
    | sl => exact ⟨_, by simp [execOp, ho, hA, resolve, invoke, builtin, Builtin.len_, hl.slice w, goInt], .prim _⟩
    | slz => exact ⟨_, by simp [execOp, ho, hA, resolve, invoke, builtin, Builtin.len_, hl.slice w, goInt], .prim _⟩
theorem PRun.lenNil {t : TypeId} {x : Operand} {T : TypeId} {ty : TypeId} {s1 b1 : Nat} {z : List Z} (ho : o.op = .call { callee := .builtin .len, args := #[x], argTypes := #[T] })
    (hx : Rd env x .nils) (hl : LOk P T ⟨.slice ty, s1, b1, z⟩) : PRun P o env σ (.int 0) :=
  .of fun G A w hs hv => by
    have h1 := rd hx (by simp [ho, Op.operands, Call.operands]) hv
    generalize hA : A.eval x = y at h1
    cases h1 with
    | nils => exact ⟨_, by simp [execOp, ho, hA, resolve, invoke, builtin, Builtin.len_, hl.slice w, goInt], .prim _⟩
theorem PRun.lenStr {x : Operand} {s : ByteArray} {T : TypeId} {s1 b1 : Nat} {z : List Z} (ho : o.op = .call { callee := .builtin .len, args := #[x], argTypes := #[T] })
    (hx : Rd env x (.str s)) (hl : LOk P T ⟨.str, s1, b1, z⟩) : PRun P o env σ (.int s.size) :=
  .of fun G A w hs hv => by
    have h1 := VRel.prim_eq (rd hx (by simp [ho, Op.operands, Call.operands]) hv)
    exact ⟨_, by simp [execOp, ho, h1, resolve, invoke, builtin, Builtin.len_, hl.strT w, goInt], .prim _⟩
theorem PRun.max {x y : Operand} {T : Array TypeId} {k : IntKind} {a b : Int} (ho : o.op = .call { callee := .builtin .max, args := #[x, y], argTypes := T })
    (hx : Rd env x (.prim (.int k a))) (hy : Rd env y (.prim (.int k b))) : PRun P o env σ (.prim (.int k (if b > a then b else a))) :=
  .of fun G A w hs hv => by
    have h1 := VRel.prim_eq (rd hx (by simp [ho, Op.operands, Call.operands]) hv)
    have h2 := VRel.prim_eq (rd hy (by simp [ho, Op.operands, Call.operands]) hv)
    exact ⟨_, by simp [execOp, ho, h1, h2, resolve, invoke, builtin, Builtin.max_, Builtin.max2], .prim _⟩
theorem PRun.min {x y : Operand} {T : Array TypeId} {k : IntKind} {a b : Int} (ho : o.op = .call { callee := .builtin .min, args := #[x, y], argTypes := T })
    (hx : Rd env x (.prim (.int k a))) (hy : Rd env y (.prim (.int k b))) : PRun P o env σ (.prim (.int k (if b < a then b else a))) :=
  .of fun G A w hs hv => by
    have h1 := VRel.prim_eq (rd hx (by simp [ho, Op.operands, Call.operands]) hv)
    have h2 := VRel.prim_eq (rd hy (by simp [ho, Op.operands, Call.operands]) hv)
    exact ⟨_, by simp [execOp, ho, h1, h2, resolve, invoke, builtin, Builtin.min_, Builtin.min2], .prim _⟩

theorem addr_add (b off k : Nat) : (⟨b, off, none⟩ : Addr).add k = ⟨b, off + k, none⟩ := by unfold Addr.add; split <;> simp_all

/-- A field's place. -/
theorem PRun.fieldI {s : TypeId} {x : Operand} {f : Nat} {cs : List AV} {fs : List (Nat × Nat × Nat)} {s1 b1 : Nat} {z : List Z} {ft off sz : Nat} (ho : o.op = .fieldAddr s x f) (hx : Rd env x (.iptr cs))
    (hl : LOk P s ⟨.struct fs, s1, b1, z⟩) (hf : fs[f]? = some (ft, off, sz)) (hz : sz ≠ 0) (hle : off ≤ cs.length) : PRun P o env σ (.iptr (cs.drop off)) :=
  .of fun G A w hs hv => by
    have h1 := rd hx (by simp [ho, Op.operands]) hv
    generalize hA : A.eval x = y at h1
    cases h1 with
    | iptr _ b o' g hm hr =>
      obtain ⟨F, h2, h3⟩ := hl.struct w
      obtain ⟨fd, h4, h5, h6, h7⟩ := h3 _ _ _ _ hf
      have hi : ∃ i, P.info? ft = some i ∧ i.size = sz := by
        cases hq : P.info? ft with
        | none => simp [hq] at h7; exact absurd h7.symm hz
        | some i => exact ⟨i, rfl, by simpa [hq] using h7⟩
      obtain ⟨i, hi1, hi2⟩ := hi
      refine ⟨.pointer (some ⟨b, o' + off, none⟩), ?_, .iptr _ b (o' + off) (fun j => g (off + j)) (fun j hj => ?_) fun j c hj => ?_⟩
      · simp [execOp, ho, hA, Instr.fieldAt, h2, h4, Instr.sureAddr, fieldPlace, sizeOf, typeInfo, h5, h6, hi1, hi2, hz, addr_add]
      · rw [Nat.add_assoc]; exact hm _ (by simp at hj; omega)
      · exact hr _ _ (by simpa [List.getElem?_drop] using hj)
theorem PRun.fieldP {s : TypeId} {x : Operand} {f : Nat} {l o' : Nat} {fs : List (Nat × Nat × Nat)} {s1 b1 : Nat} {z : List Z} {ft off sz : Nat} (ho : o.op = .fieldAddr s x f) (hx : Rd env x (.ptr l o'))
    (hl : LOk P s ⟨.struct fs, s1, b1, z⟩) (hf : fs[f]? = some (ft, off, sz)) (hz : sz ≠ 0) : PRun P o env σ (.ptr l (o' + off)) :=
  .of fun G A w hs hv => by
    have h1 := rd hx (by simp [ho, Op.operands]) hv
    generalize hA : A.eval x = y at h1
    cases h1 with
    | ptr _ _ b hb =>
      obtain ⟨F, h2, h3⟩ := hl.struct w
      obtain ⟨fd, h4, h5, h6, h7⟩ := h3 _ _ _ _ hf
      have hi : ∃ i, P.info? ft = some i ∧ i.size = sz := by
        cases hq : P.info? ft with
        | none => simp [hq] at h7; exact absurd h7.symm hz
        | some i => exact ⟨i, rfl, by simpa [hq] using h7⟩
      obtain ⟨i, hi1, hi2⟩ := hi
      refine ⟨.pointer (some ⟨b, o' + off, none⟩), ?_, .ptr _ _ b hb⟩
      simp [execOp, ho, hA, Instr.fieldAt, h2, h4, Instr.sureAddr, fieldPlace, sizeOf, typeInfo, h5, h6, hi1, hi2, hz, addr_add]

/-- What a load of a type reads out of cells. -/
def takeAV (li : LI) (cs : List AV) : AV := if li.lt.isAgg then .agg (cs.take li.size) else cs.headD .any

theorem run_loadVar {T : TypeId} {li : LI} (hl : LOk P T li) (w : World) (b off : Nat) (g : Nat → Value) (hc : ∀ j, j < (if li.lt.isAgg then li.size else 1) → w.cell? ⟨b, off + j, none⟩ = some (g j)) :
    (loadVar T ⟨b, off, none⟩).run P w = .ok (if li.lt.isAgg then .agg ((List.range li.size).map g).toArray else g 0) w := by
  unfold loadVar
  rw [Sem.run_bind, hl.run_isAgg w]
  simp only [Result.andThen_ok]
  cases ha : li.lt.isAgg with
  | true =>
    simp only [ha, if_true] at hc ⊢
    rw [Sem.run_bind, hl.run_size w]
    simp only [Result.andThen_ok]
    rw [Sem.run_bind, run_loadCells w ⟨b, off, none⟩ li.size g (fun j hj => by rw [addr_add]; exact hc j hj)]
    rfl
  | false =>
    simp only [ha, Bool.false_eq_true, if_false] at hc ⊢
    have := hc 0 (by omega)
    simp only [Nat.add_zero] at this
    rw [run_load]; simp only [this]

theorem PRun.loadI {T : TypeId} {x : Operand} {cs : List AV} {li : LI} (ho : o.op = .load T x) (hx : Rd env x (.iptr cs)) (hl : LOk P T li) (hle : (if li.lt.isAgg then li.size else 1) ≤ cs.length) :
    PRun P o env σ (takeAV li cs) :=
  .of fun G A w hs hv => by
    have h1 := rd hx (by simp [ho, Op.operands]) hv
    generalize hA : A.eval x = y at h1
    cases h1 with
    | iptr _ b off g hm hr =>
      refine ⟨if li.lt.isAgg then .agg ((List.range li.size).map g).toArray else g 0, ?_, ?_⟩
      · simp only [execOp, ho, hA, Instr.loadAt, Instr.sureAddr]
        simp only [Sem.run_bind, Sem.run_pure, Result.andThen_ok]
        rw [run_loadVar hl w b off g (fun j hj => hs.memok.1 _ _ _ (hm j (by omega)))]
        rfl
      · unfold takeAV
        cases ha : li.lt.isAgg with
        | true =>
          simp only [ha, if_true] at hle ⊢
          refine .agg _ _ (by simp; omega) fun i c hi => ?_
          rw [List.getElem?_take] at hi
          split at hi
          · rename_i hlt
            have := (hr i c hi).mono (Mem.Le.refl _) (B' := G.B) (fun l g h => by simp at h)
            simpa [hlt] using this
          · simp at hi
        | false =>
          simp only [ha, Bool.false_eq_true, if_false] at hle ⊢
          cases cs with
          | nil => simp at hle
          | cons c r => exact (hr 0 c rfl).mono (Mem.Le.refl _) (fun l g h => by simp at h)

theorem PRun.loadP {T : TypeId} {x : Operand} {l off : Nat} {cs : List AV} {li : LI} (ho : o.op = .load T x) (hx : Rd env x (.ptr l off)) (hσ : σ[l]? = some (.var cs)) (hl : LOk P T li)
    (hle : off + (if li.lt.isAgg then li.size else 1) ≤ cs.length) : PRun P o env σ (takeAV li (cs.drop off)) :=
  .of fun G A w hs hv => by
    have h1 := rd hx (by simp [ho, Op.operands]) hv
    generalize hA : A.eval x = y at h1
    cases h1 with
    | ptr _ _ b hb =>
      have := hs.objs l _ _ hb hσ
      cases this with
      | var _ _ c T' fr hbb hf hlen hr hm =>
        refine ⟨if li.lt.isAgg then .agg ((List.range li.size).map fun j => c.getD (off + j) undef).toArray else c.getD off undef, ?_, ?_⟩
        · simp only [execOp, ho, hA, Instr.loadAt, Instr.sureAddr]
          simp only [Sem.run_bind, Sem.run_pure, Result.andThen_ok]
          rw [run_loadVar hl w b off (fun j => c.getD (off + j) undef) (fun j hj => by
            have hlt : off + j < c.size := by omega
            simp [World.cell?, hbb, hlt])]
          rfl
        · unfold takeAV
          cases ha : li.lt.isAgg with
          | true =>
            simp only [ha, if_true] at hle ⊢
            refine .agg _ _ (by simp; omega) fun i c' hi => ?_
            rw [List.getElem?_take] at hi
            split at hi
            · rename_i hlt
              rw [List.getElem?_drop] at hi
              have := hr _ _ hi
              simpa [hlt] using this
            · simp at hi
          | false =>
            simp only [ha, Bool.false_eq_true, if_false] at hle ⊢
            have hlt : off < cs.length := by omega
            rw [List.drop_eq_getElem_cons hlt]
            exact hr off _ (List.getElem?_eq_getElem hlt)

theorem PRun.field {T : TypeId} {x : Operand} {f : Nat} {cs : List AV} {fs : List (Nat × Nat × Nat)} {s1 b1 : Nat} {z : List Z} {ft off sz : Nat} {li : LI} (ho : o.op = .field T x f) (hx : Rd env x (.agg cs))
    (hl : LOk P T ⟨.struct fs, s1, b1, z⟩) (hf : fs[f]? = some (ft, off, sz)) (hli : LOk P ft li) (hle : off + (if li.lt.isAgg then li.size else 1) ≤ cs.length) : PRun P o env σ (takeAV li (cs.drop off)) :=
  .of fun G A w hs hv => by
    have h1 := rd hx (by simp [ho, Op.operands]) hv
    generalize hA : A.eval x = y at h1
    cases h1 with
    | agg _ vs hlen hr =>
      obtain ⟨F, h2, h3⟩ := hl.struct w
      obtain ⟨fd, h4, h5, h6, h7⟩ := h3 _ _ _ _ hf
      cases ha : li.lt.isAgg with
      | true =>
        simp only [ha, if_true] at hle
        refine ⟨.agg (vs.extract off (off + li.size)), ?_, ?_⟩
        · simp [execOp, ho, hA, Instr.field, h2, h4, asAgg, part, h5, h6, hli.run_isAgg w, hli.run_size w, ha]
        · simp only [takeAV, ha, if_true]
          refine .agg _ _ (by simp; omega) fun i c' hi => ?_
          rw [List.getElem?_take] at hi
          split at hi
          · rename_i hlt
            rw [List.getElem?_drop] at hi
            have := hr _ _ hi
            have e : (vs.extract off (off + li.size))[i]? = vs[off + i]? := by
              rw [Array.getElem?_extract]; rw [if_pos (by omega)]
            simp only [Array.getD_eq_getD_getElem?] at this ⊢
            rw [e]; exact this
          · simp at hi
      | false =>
        simp only [ha, Bool.false_eq_true, if_false] at hle
        have hlt : off < cs.length := by omega
        have hlt' : off < vs.size := by omega
        refine ⟨vs[off], ?_, ?_⟩
        · simp [execOp, ho, hA, Instr.field, h2, h4, asAgg, part, h5, h6, hli.run_isAgg w, ha, hlt']
        · simp only [takeAV, ha, Bool.false_eq_true, if_false]
          rw [List.drop_eq_getElem_cons hlt]
          have := hr off _ (List.getElem?_eq_getElem hlt)
          rw [show vs.getD off undef = vs[off] by simp [hlt']] at this
          exact this

/-- An element's place. -/
theorem PRun.indexI {T e : TypeId} {x y : Operand} {sz : Nat} {es : List (List AV)} {tk : Tok} {k : IntKind} {i : Int} {s1 b1 : Nat} {z : List Z} {li : LI} (ho : o.op = .indexAddr T x y) (hx : Rd env x (.sl sz es tk))
    (hy : Rd env y (.prim (.int k i))) (hl : LOk P T ⟨.slice e, s1, b1, z⟩) (hli : LOk P e li) (hsz : li.size = sz) (h0 : 0 ≤ i) (h1 : i < es.length) : PRun P o env σ (.iptr (es.getD i.toNat [])) :=
  .of fun G A w hs hv => by
    have hX := rd hx (by simp [ho, Op.operands]) hv
    have hY := VRel.prim_eq (rd hy (by simp [ho, Op.operands]) hv)
    generalize hA : A.eval x = v at hX
    obtain ⟨n, rfl⟩ := Int.eq_ofNat_of_zero_le h0
    have hn : n < es.length := by omega
    cases hX with
    | slz => simp at hn
    | sl _ _ _ b off cap f hz hm hr hc ht =>
      have hg : es.getD n [] = es[n] := by simp [hn]
      have hlen : (es[n]).length = sz := hz _ (List.getElem_mem hn)
      refine ⟨.pointer (some ⟨b, off + n * sz, none⟩), ?_, ?_⟩
      · simp only [execOp, ho, hA, hY, Instr.indexAt, asIntOf]
        simp [hl.slice w, hli.run_size w, hsz, hn, addr_add]
      · simp only [Int.toNat_natCast, hg]
        exact .iptr _ b _ (f n) (fun j hj => hm n j hn (by omega)) fun j c hj => hr n j _ c (List.getElem?_eq_getElem hn) hj

theorem PRun.indexM {α : Type} [Inhabited α] {T e : TypeId} {x y : Operand} {sz : Nat} {l : List α} {f : α → List AV} {tk : Tok} {k : IntKind} {i : Int} {s1 b1 : Nat} {z : List Z} {li : LI} (ho : o.op = .indexAddr T x y) (hx : Rd env x (.sl sz (l.map f) tk))
    (hy : Rd env y (.prim (.int k i))) (hl : LOk P T ⟨.slice e, s1, b1, z⟩) (hli : LOk P e li) (hsz : li.size = sz) (h0 : 0 ≤ i) (h1 : i < l.length) : PRun P o env σ (.iptr (f (l.getD i.toNat default))) := by
  have := PRun.indexI (σ := σ) ho hx hy hl hli hsz h0 (by simpa using h1)
  have e : (l.map f).getD i.toNat [] = f (l.getD i.toNat default) := by
    have hn : i.toNat < l.length := by omega
    simp [List.getD, hn]
  rwa [e] at this

theorem PRun.indexS {T : TypeId} {x y : Operand} {s : ByteArray} {k : IntKind} {i : Int} {s1 b1 : Nat} {z : List Z} (ho : o.op = .index T x y) (hx : Rd env x (.str s))
    (hy : Rd env y (.prim (.int k i))) (hl : LOk P T ⟨.str, s1, b1, z⟩) (h0 : 0 ≤ i) (h1 : i < s.size) : PRun P o env σ (.prim (.int .u8 ((s.data.toList.getD i.toNat 0).toNat))) :=
  .of fun G A w hs hv => by
    have hX := VRel.prim_eq (rd hx (by simp [ho, Op.operands]) hv)
    have hY := VRel.prim_eq (rd hy (by simp [ho, Op.operands]) hv)
    obtain ⟨n, rfl⟩ := Int.eq_ofNat_of_zero_le h0
    have hn : n < s.size := by omega
    refine ⟨_, ?_, .prim _⟩
    have hn' : n < s.data.size := hn
    have e : s[n]? = some s.data[n] := by
      rw [getElem?_pos s n hn]; rfl
    have e2 : s.data.toList.getD n 0 = s.data[n] := by rw [List.getD_eq_getElem?_getD, Array.getElem?_toList, Array.getElem?_eq_getElem hn']; rfl
    simp only [Int.toNat_natCast, e2]
    simp [execOp, ho, hX, hY, Instr.index, asIntOf, hl.strT w, e]

theorem PRun.extract {x : Operand} {k : Nat} {cs : List AV} {c : AV} (ho : o.op = .extract x k) (hx : Rd env x (.tup cs)) (hc : cs[k]? = some c) : PRun P o env σ c :=
  .of fun G A w hs hv => by
    have h1 := rd hx (by simp [ho, Op.operands]) hv
    generalize hA : A.eval x = y at h1
    cases h1 with
    | tup _ vs hlen hr =>
      have hk : k < vs.size := by
        rcases Nat.lt_or_ge k cs.length with h | h
        · omega
        · simp [List.getElem?_eq_none h] at hc
      refine ⟨vs[k], ?_, by simpa [hk] using hr k c hc⟩
      simp [execOp, ho, hA, Instr.extract, hk]

end
end Go.Ab
