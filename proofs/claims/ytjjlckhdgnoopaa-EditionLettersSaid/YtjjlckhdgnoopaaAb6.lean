/- The rules in the form in which a walk uses them: every value is computed, side conditions are tests. -/
import Derived.Test.YtjjlckhdgnoopaaAb5
namespace Go.Ab

/-- A value in its outermost form. -/
def AV.wh : AV → Option AV
  | .any => some .any
  | .prim v => some (.prim v)
  | .agg cs => some (.agg cs)
  | .tup cs => some (.tup cs)
  | .nils => some .nils
  | .sl sz es t => some (.sl sz es t)
  | .ptr l o => some (.ptr l o)
  | .iptr cs => some (.iptr cs)
  | .fn f a c => some (.fn f a c)
  | .map l => some (.map l)
  | .imap k => some (.imap k)
  | .when g v => some (.when g v)
  | .ext v => some (.ext v)
theorem AV.wh_eq {v u : AV} (h : v.wh = some u) : v = u := by cases v <;> simp [AV.wh] at h <;> exact h

def rdv (env : Env) (x : Operand) : Option AV := match envOp env x with | .when _ v => v.wh | v => v.wh
def rdn (env : Env) (x : Operand) : Prop := match envOp env x with | .when g _ => g = true | _ => True
theorem Rd.w {env : Env} {x : Operand} {u : AV} (h : rdv env x = some u) (hn : rdn env x) : Rd env x u := by
  refine Rd.st ?_ ?_
  · unfold rdv at h
    generalize envOp env x = e at *
    cases e with
    | when g v => exact AV.wh_eq h
    | _ => exact AV.wh_eq h
  · unfold rdn at hn
    generalize envOp env x = e at *
    cases e with
    | when g v => exact hn
    | _ => trivial

/-- The guard of an operation: none, or a test. -/
inductive GG where
  | no
  | yes (c : Bool)
def GG.holds : GG → Prop
  | .no => True
  | .yes c => c = true
def GG.wrap : GG → AV → AV
  | .no, v => v
  | .yes c, v => .when c v
def gOf (ops : Array Oper) (env : Env) (o : Oper) : Option GG :=
  match o.guard with
  | none => some .no
  | some (j, want) => match (ops[j]?).bind (·.dst) with
    | some d => match env d with
      | .prim (.bool t) => some (.yes (t == want))
      | .when g (.prim (.bool t)) => some (.yes (g && (t == want)))
      | _ => none
    | none => none

theorem PStep.g {P : Program} {ops : Array Oper} {o : Oper} {env : Env} {σ : Store} {v : AV} {g : GG} (hg : gOf ops env o = some g) (h : g.holds → PRun P o env σ v) : PStep P ops o env σ (g.wrap v) := by
  unfold gOf at hg
  split at hg
  · rename_i hgd; simp at hg; subst hg; exact PStep.plain hgd (h trivial)
  · rename_i j want hgd
    split at hg
    · rename_i d hd
      split at hg
      · rename_i t he
        simp at hg; subst hg
        exact PStep.guarded hgd hd (bool_of_prim he) h
      · rename_i g' t he
        simp at hg; subst hg
        intro G a w hs hv
        have hz := hv d (List.mem_append_right _ (by simp [hgd, hd]))
        rw [he] at hz
        have hw : Region.wanted o (yielded ops a.tmps) = (g' && (t == want)) := by
          cases hz
          rename_i h0 hz
          simp only [Region.wanted, hgd, yielded, hd, Option.bind_some]
          cases hgc : g' with
          | false =>
            have h1 := h0 hgc
            cases h : a.tmps[d]? with
            | none => rfl
            | some y => simp [h] at h1; subst h1; rfl
          | true =>
            have h1 := VRel.prim_eq (hz hgc)
            have h2 : a.tmps[d]? = some (.bool t) := by
              cases h : a.tmps[d]? with
              | none => simp [h, undef] at h1
              | some y => simp [h] at h1; rw [h1]
            simp only [h2]
            cases t <;> cases want <;> rfl
        rw [hw]
        split
        · rename_i htw
          exact Oper.wp_mono (fun a' w' ⟨x, G', h1, h2, h3⟩ => ⟨x, G', h1, .when _ _ _ (fun _ => h2) (fun e => by rw [htw] at e; cases e), h3⟩) (h htw G a w hs fun x hx => hv x (looks_of hx))
        · rename_i htw
          exact .when _ _ _ (fun e => absurd e htw) fun _ => rfl
      · simp at hg
    · simp at hg

/-- A list with its spine written out. -/
def forceL : List AV → Option (List AV)
  | [] => some []
  | a :: r => match forceL r with
    | some r' => some (a :: r')
    | none => none
theorem forceL_eq : ∀ {l r : List AV}, forceL l = some r → l = r
  | [], r, h => by simp [forceL] at h; exact h.symm
  | a :: l, r, h => by
    simp only [forceL] at h
    cases hl : forceL l with
    | none => simp [hl] at h
    | some r' => simp [hl] at h; subst h; rw [forceL_eq hl]

/-- What a type reads out of cells from a place on. -/
def takeF (li : LI) (off : Nat) (cs : List AV) : Option AV :=
  if li.lt.isAgg then
    match forceL ((cs.drop off).take li.size) with
    | some l => if off + li.size ≤ cs.length then some (.agg l) else none
    | none => none
  else match cs.drop off with
    | c :: _ => c.wh
    | [] => none

theorem takeF_spec {li : LI} {off : Nat} {cs : List AV} {u : AV} (h : takeF li off cs = some u) : takeAV li (cs.drop off) = u ∧ off + (if li.lt.isAgg then li.size else 1) ≤ cs.length := by
  unfold takeF at h
  unfold takeAV
  split at h
  · rename_i ha
    rw [if_pos ha, if_pos ha]
    split at h
    · rename_i l hl
      split at h
      · rename_i hle
        simp at h
        rw [← h, ← forceL_eq hl]; exact ⟨rfl, hle⟩
      · simp at h
    · simp at h
  · rename_i ha
    rw [if_neg ha, if_neg ha]
    split at h
    · rename_i c r hc
      rw [hc]
      refine ⟨AV.wh_eq h, ?_⟩
      have : (cs.drop off).length ≥ 1 := by rw [hc]; simp
      simp at this; omega
    · simp at h

def dropF (off : Nat) (cs : List AV) : Option (List AV) := if off ≤ cs.length then forceL (cs.drop off) else none
theorem dropF_spec {off : Nat} {cs r : List AV} (h : dropF off cs = some r) : cs.drop off = r ∧ off ≤ cs.length := by
  unfold dropF at h
  split at h
  · rename_i hle; exact ⟨forceL_eq h, hle⟩
  · simp at h

def fieldOf (T : Tab) (s f : Nat) : Option (Nat × Nat × Nat) := match T.get s with
  | some ⟨.struct fs, _, _, _⟩ => match fs[f]? with
    | some (ft, off, sz) => if sz = 0 then none else some (ft, off, sz)
    | none => none
  | _ => none
theorem fieldOf_spec {T : Tab} {P : Program} (hT : T.Ok P) {s f ft off sz : Nat} (h : fieldOf T s f = some (ft, off, sz)) : sz ≠ 0 ∧ ∃ fs s1 b1 z, LOk P s ⟨.struct fs, s1, b1, z⟩ ∧ fs[f]? = some (ft, off, sz) := by
  unfold fieldOf at h
  split at h
  · rename_i fs s1 b1 z hg
    split at h
    · rename_i ft' off' sz' hf
      split at h
      · simp at h
      · rename_i hz
        simp at h
        obtain ⟨rfl, rfl, rfl⟩ := h
        exact ⟨hz, fs, s1, b1, z, LOk.of (hT.get hg), hf⟩
    · simp at h
  · simp at h

section
variable {P : Program} {o : Oper} {env : Env} {σ : Store} {T : Tab}

theorem PRun.moveW {x : Operand} {u : AV} (ho : o.op = .move x) (hx : rdv env x = some u) (nx : rdn env x) : PRun P o env σ u := PRun.move ho (Rd.w hx nx)
theorem PRun.assignW {x : Operand} {u : AV} (ho : o.op = .assign x) (hx : rdv env x = some u) (nx : rdn env x) : PRun P o env σ u := PRun.assign ho (Rd.w hx nx)
theorem PRun.andW {c x : Operand} {t u : Bool} (ho : o.op = .pick c x (.const (.bool false))) (hc : rdv env c = some (.b t)) (nc : rdn env c) (hx : rdv env x = some (.b u)) (nx : t = true → rdn env x) : PRun P o env σ (.b (t && u)) :=
  PRun.pickAnd ho (Rd.w hc nc) fun h => Rd.w hx (nx h)
theorem PRun.orW {c x : Operand} {t u : Bool} (ho : o.op = .pick c (.const (.bool true)) x) (hc : rdv env c = some (.b t)) (nc : rdn env c) (hx : rdv env x = some (.b u)) (nx : t = false → rdn env x) : PRun P o env σ (.b (t || u)) :=
  PRun.pickOr ho (Rd.w hc nc) fun h => Rd.w hx (nx h)
theorem PRun.binW {op : BinOp} {t t' : TypeId} {x y : Operand} {vx vy r : Value} (ho : o.op = .binOp op t x y t') (hx : rdv env x = some (.prim vx)) (nx : rdn env x) (hy : rdv env y = some (.prim vy)) (ny : rdn env y) (hr : binPrim op vx vy = some r) :
    PRun P o env σ (.prim r) := PRun.bin ho (Rd.w hx nx) (Rd.w hy ny) hr

theorem wrap64_in {n : Int} (h : -9223372036854775808 ≤ n ∧ n ≤ 9223372036854775807) : IntKind.i64.wrap n = n := IntWalk.i64_in n h
theorem PRun.addW {t t' : TypeId} {x y : Operand} {a b : Int} (ho : o.op = .binOp .add t x y t') (hx : rdv env x = some (.int a)) (nx : rdn env x) (hy : rdv env y = some (.int b)) (ny : rdn env y) (hr : -9223372036854775808 ≤ a + b ∧ a + b ≤ 9223372036854775807) :
    PRun P o env σ (.int (a + b)) := by
  have := PRun.bin (P := P) (σ := σ) (r := .int .i64 (a + b)) ho (Rd.w hx nx) (Rd.w hy ny) (by simp [binPrim, wrap64_in hr])
  exact this
theorem PRun.subW {t t' : TypeId} {x y : Operand} {a b : Int} (ho : o.op = .binOp .sub t x y t') (hx : rdv env x = some (.int a)) (nx : rdn env x) (hy : rdv env y = some (.int b)) (ny : rdn env y) (hr : -9223372036854775808 ≤ a - b ∧ a - b ≤ 9223372036854775807) :
    PRun P o env σ (.int (a - b)) := by
  have := PRun.bin (P := P) (σ := σ) (r := .int .i64 (a - b)) ho (Rd.w hx nx) (Rd.w hy ny) (by simp [binPrim, wrap64_in hr])
  exact this
theorem PRun.mulW {t t' : TypeId} {x y : Operand} {a b : Int} (ho : o.op = .binOp .mul t x y t') (hx : rdv env x = some (.int a)) (nx : rdn env x) (hy : rdv env y = some (.int b)) (ny : rdn env y) (hr : -9223372036854775808 ≤ a * b ∧ a * b ≤ 9223372036854775807) :
    PRun P o env σ (.int (a * b)) := by
  have := PRun.bin (P := P) (σ := σ) (r := .int .i64 (a * b)) ho (Rd.w hx nx) (Rd.w hy ny) (by simp [binPrim, wrap64_in hr])
  exact this
theorem PRun.quoW {t t' : TypeId} {x y : Operand} {k : IntKind} {a b : Int} (ho : o.op = .binOp .quo t x y t') (hx : rdv env x = some (.prim (.int k a))) (nx : rdn env x) (hy : rdv env y = some (.prim (.int k b))) (ny : rdn env y) (hb : b ≠ 0) :
    PRun P o env σ (.prim (.int k (k.wrap (a.tdiv b)))) := PRun.quo ho (Rd.w hx nx) (Rd.w hy ny) hb
theorem PRun.remW {t t' : TypeId} {x y : Operand} {k : IntKind} {a b : Int} (ho : o.op = .binOp .rem t x y t') (hx : rdv env x = some (.prim (.int k a))) (nx : rdn env x) (hy : rdv env y = some (.prim (.int k b))) (ny : rdn env y) (hb : b ≠ 0) :
    PRun P o env σ (.prim (.int k (a.tmod b))) := PRun.rem ho (Rd.w hx nx) (Rd.w hy ny) hb
theorem PRun.eqBoolW (hT : T.Ok P) {t t' : TypeId} {x y : Operand} {a b : Bool} {sz by' : Nat} {z : List Z} (ho : o.op = .binOp .eql t x y t') (hx : rdv env x = some (.b a)) (nx : rdn env x) (hy : rdv env y = some (.b b)) (ny : rdn env y) (hl : T.get t = some ⟨.bool, sz, by', z⟩) :
    PRun P o env σ (.b (a == b)) := PRun.eqBool ho (Rd.w hx nx) (Rd.w hy ny) (LOk.of (hT.get hl))
theorem PRun.neBoolW (hT : T.Ok P) {t t' : TypeId} {x y : Operand} {a b : Bool} {sz by' : Nat} {z : List Z} (ho : o.op = .binOp .neq t x y t') (hx : rdv env x = some (.b a)) (nx : rdn env x) (hy : rdv env y = some (.b b)) (ny : rdn env y) (hl : T.get t = some ⟨.bool, sz, by', z⟩) :
    PRun P o env σ (.b (a != b)) := PRun.neBool ho (Rd.w hx nx) (Rd.w hy ny) (LOk.of (hT.get hl))
theorem PRun.notW {t : TypeId} {x : Operand} {a : Bool} (ho : o.op = .unOp .not t x) (hx : rdv env x = some (.b a)) (nx : rdn env x) : PRun P o env σ (.b (!a)) := PRun.not ho (Rd.w hx nx)
theorem PRun.negW {t : TypeId} {x : Operand} {a : Int} (ho : o.op = .unOp .neg t x) (hx : rdv env x = some (.int a)) (nx : rdn env x) (hr : -9223372036854775808 ≤ 0 - a ∧ 0 - a ≤ 9223372036854775807) : PRun P o env σ (.int (-a)) := by
  have := PRun.neg (P := P) (σ := σ) ho (Rd.w hx nx)
  rw [wrap64_in hr, Int.zero_sub] at this
  exact this
theorem PRun.negWr {t : TypeId} {x : Operand} {k : IntKind} {a : Int} (ho : o.op = .unOp .neg t x) (hx : rdv env x = some (.prim (.int k a))) (nx : rdn env x) : PRun P o env σ (.prim (.int k (k.wrap (0 - a)))) := PRun.neg ho (Rd.w hx nx)
theorem PRun.convW (hT : T.Ok P) {s d : TypeId} {x : Operand} {k k' : IntKind} {a : Int} {lis : LI} {sz by' : Nat} {z : List Z} (ho : o.op = .convert s d x) (hx : rdv env x = some (.prim (.int k a))) (nx : rdn env x) (hs' : T.get s = some lis) (hl : T.get d = some ⟨.int k', sz, by', z⟩) :
    PRun P o env σ (.prim (.int k' (k'.wrap a))) := PRun.conv ho (Rd.w hx nx) (LOk.of (hT.get hs')) (LOk.of (hT.get hl))
theorem PRun.lenM (hT : T.Ok P) {α : Type} {l : List α} {f : α → List AV} {x : Operand} {sz : Nat} {tk : Tok} {t : TypeId} {ty : TypeId} {s1 b1 : Nat} {z : List Z} (ho : o.op = .call { callee := .builtin .len, args := #[x], argTypes := #[t] })
    (hx : rdv env x = some (.sl sz (l.map f) tk)) (nx : rdn env x) (hl : T.get t = some ⟨.slice ty, s1, b1, z⟩) : PRun P o env σ (.int l.length) := by
  have := PRun.len (P := P) (σ := σ) (t := 0) ho (Rd.w hx nx) (LOk.of (hT.get hl))
  rwa [List.length_map] at this
theorem PRun.lenW (hT : T.Ok P) {x : Operand} {sz : Nat} {es : List (List AV)} {tk : Tok} {t : TypeId} {ty : TypeId} {s1 b1 : Nat} {z : List Z} (ho : o.op = .call { callee := .builtin .len, args := #[x], argTypes := #[t] })
    (hx : rdv env x = some (.sl sz es tk)) (nx : rdn env x) (hl : T.get t = some ⟨.slice ty, s1, b1, z⟩) : PRun P o env σ (.int es.length) := PRun.len (t := 0) ho (Rd.w hx nx) (LOk.of (hT.get hl))
theorem PRun.lenNilW (hT : T.Ok P) {x : Operand} {t : TypeId} {ty : TypeId} {s1 b1 : Nat} {z : List Z} (ho : o.op = .call { callee := .builtin .len, args := #[x], argTypes := #[t] })
    (hx : rdv env x = some .nils) (nx : rdn env x) (hl : T.get t = some ⟨.slice ty, s1, b1, z⟩) : PRun P o env σ (.int 0) := PRun.lenNil (t := 0) ho (Rd.w hx nx) (LOk.of (hT.get hl))
theorem PRun.lenStrW (hT : T.Ok P) {x : Operand} {s : ByteArray} {t : TypeId} {s1 b1 : Nat} {z : List Z} (ho : o.op = .call { callee := .builtin .len, args := #[x], argTypes := #[t] })
    (hx : rdv env x = some (.str s)) (nx : rdn env x) (hl : T.get t = some ⟨.str, s1, b1, z⟩) : PRun P o env σ (.int s.size) := PRun.lenStr ho (Rd.w hx nx) (LOk.of (hT.get hl))
theorem PRun.maxW {x y : Operand} {Ts : Array TypeId} {k : IntKind} {a b : Int} (ho : o.op = .call { callee := .builtin .max, args := #[x, y], argTypes := Ts })
    (hx : rdv env x = some (.prim (.int k a))) (nx : rdn env x) (hy : rdv env y = some (.prim (.int k b))) (ny : rdn env y) : PRun P o env σ (.prim (.int k (Max.max a b))) := by
  have := PRun.max (P := P) (σ := σ) ho (Rd.w hx nx) (Rd.w hy ny)
  have e : (if b > a then b else a) = Max.max a b := by
    rw [Int.max_def]; split <;> split <;> omega
  rwa [e] at this
theorem PRun.minW {x y : Operand} {Ts : Array TypeId} {k : IntKind} {a b : Int} (ho : o.op = .call { callee := .builtin .min, args := #[x, y], argTypes := Ts })
    (hx : rdv env x = some (.prim (.int k a))) (nx : rdn env x) (hy : rdv env y = some (.prim (.int k b))) (ny : rdn env y) : PRun P o env σ (.prim (.int k (Min.min a b))) := by
  have := PRun.min (P := P) (σ := σ) ho (Rd.w hx nx) (Rd.w hy ny)
  have e : (if b < a then b else a) = Min.min a b := by
    rw [Int.min_def]; split <;> split <;> omega
  rwa [e] at this
theorem PRun.fieldIW (hT : T.Ok P) {s : TypeId} {x : Operand} {f ft off sz : Nat} {cs cs' : List AV} (ho : o.op = .fieldAddr s x f) (hx : rdv env x = some (.iptr cs)) (nx : rdn env x) (hf : fieldOf T s f = some (ft, off, sz)) (hd : dropF off cs = some cs') :
    PRun P o env σ (.iptr cs') := by
  obtain ⟨hz, fs, s1, b1, z, hl, hf'⟩ := fieldOf_spec hT hf
  obtain ⟨h1, h2⟩ := dropF_spec hd
  have := PRun.fieldI (P := P) (σ := σ) ho (Rd.w hx nx) hl hf' hz h2
  rwa [h1] at this
theorem PRun.fieldPW (hT : T.Ok P) {s : TypeId} {x : Operand} {f ft off sz l o' : Nat} (ho : o.op = .fieldAddr s x f) (hx : rdv env x = some (.ptr l o')) (nx : rdn env x) (hf : fieldOf T s f = some (ft, off, sz)) :
    PRun P o env σ (.ptr l (o' + off)) := by
  obtain ⟨hz, fs, s1, b1, z, hl, hf'⟩ := fieldOf_spec hT hf
  exact PRun.fieldP (P := P) (σ := σ) ho (Rd.w hx nx) hl hf' hz
theorem PRun.loadIW (hT : T.Ok P) {t : TypeId} {x : Operand} {cs : List AV} {li : LI} {u : AV} (ho : o.op = .load t x) (hx : rdv env x = some (.iptr cs)) (nx : rdn env x) (hl : T.get t = some li) (hu : takeF li 0 cs = some u) : PRun P o env σ u := by
  obtain ⟨h1, h2⟩ := takeF_spec hu
  have := PRun.loadI (P := P) (σ := σ) ho (Rd.w hx nx) (LOk.of (hT.get hl)) (by omega)
  simp only [List.drop_zero] at h1
  rwa [h1] at this
theorem PRun.loadPW (hT : T.Ok P) {t : TypeId} {x : Operand} {l off : Nat} {cs : List AV} {li : LI} {u : AV} (ho : o.op = .load t x) (hx : rdv env x = some (.ptr l off)) (nx : rdn env x) (hσ : σ[l]? = some (.var cs)) (hl : T.get t = some li)
    (hu : takeF li off cs = some u) : PRun P o env σ u := by
  obtain ⟨h1, h2⟩ := takeF_spec hu
  have := PRun.loadP (P := P) (σ := σ) ho (Rd.w hx nx) hσ (LOk.of (hT.get hl)) h2
  rwa [h1] at this
theorem PRun.fldW (hT : T.Ok P) {t : TypeId} {x : Operand} {f ft off sz : Nat} {cs : List AV} {li : LI} {u : AV} (ho : o.op = .field t x f) (hx : rdv env x = some (.agg cs)) (nx : rdn env x) (hf : fieldOf T t f = some (ft, off, sz))
    (hl : T.get ft = some li) (hu : takeF li off cs = some u) : PRun P o env σ u := by
  obtain ⟨hz, fs, s1, b1, z, hl', hf'⟩ := fieldOf_spec hT hf
  obtain ⟨h1, h2⟩ := takeF_spec hu
  have := PRun.field (P := P) (σ := σ) ho (Rd.w hx nx) hl' hf' (LOk.of (hT.get hl)) h2
  rwa [h1] at this
def elemSz (T : Tab) (t : Nat) : Option Nat := match T.get t with
  | some ⟨.slice e, _, _, _⟩ => (T.get e).map (·.size)
  | _ => none
theorem elemSz_spec (hT : T.Ok P) {t sz : Nat} (h : elemSz T t = some sz) : ∃ e s1 b1 z li, LOk P t ⟨.slice e, s1, b1, z⟩ ∧ LOk P e li ∧ li.size = sz := by
  unfold elemSz at h
  split at h
  · rename_i e s1 b1 z hg
    simp only [Option.map_eq_some_iff] at h
    obtain ⟨li, h1, h2⟩ := h
    exact ⟨e, s1, b1, z, li, LOk.of (hT.get hg), LOk.of (hT.get h1), h2⟩
  · simp at h
theorem PRun.indexMW (hT : T.Ok P) {α : Type} [Inhabited α] {t : TypeId} {x y : Operand} {sz : Nat} {l : List α} {f : α → List AV} {tk : Tok} {k : IntKind} {i : Int} {cs : List AV} (ho : o.op = .indexAddr t x y) (hx : rdv env x = some (.sl sz (l.map f) tk)) (nx : rdn env x)
    (hy : rdv env y = some (.prim (.int k i))) (ny : rdn env y) (hl : elemSz T t = some sz) (hc : forceL (f (l.getD i.toNat default)) = some cs) (h0 : 0 ≤ i ∧ i < l.length) : PRun P o env σ (.iptr cs) := by
  obtain ⟨e, s1, b1, z, li, h1, h2, h3⟩ := elemSz_spec hT hl
  have := PRun.indexM (P := P) (σ := σ) ho (Rd.w hx nx) (Rd.w hy ny) h1 h2 h3 h0.1 h0.2
  rwa [forceL_eq hc] at this
theorem PRun.indexW (hT : T.Ok P) {t : TypeId} {x y : Operand} {sz : Nat} {es : List (List AV)} {tk : Tok} {k : IntKind} {i : Int} (ho : o.op = .indexAddr t x y) (hx : rdv env x = some (.sl sz es tk)) (nx : rdn env x)
    (hy : rdv env y = some (.prim (.int k i))) (ny : rdn env y) (hl : elemSz T t = some sz) (h0 : 0 ≤ i ∧ i < es.length) : PRun P o env σ (.iptr (es.getD i.toNat [])) := by
  obtain ⟨e, s1, b1, z, li, h1, h2, h3⟩ := elemSz_spec hT hl
  exact PRun.indexI (P := P) (σ := σ) ho (Rd.w hx nx) (Rd.w hy ny) h1 h2 h3 h0.1 h0.2
theorem PRun.indexSW (hT : T.Ok P) {t : TypeId} {x y : Operand} {s : ByteArray} {k : IntKind} {i : Int} {s1 b1 : Nat} {z : List Z} (ho : o.op = .index t x y) (hx : rdv env x = some (.str s)) (nx : rdn env x)
    (hy : rdv env y = some (.prim (.int k i))) (ny : rdn env y) (hl : T.get t = some ⟨.str, s1, b1, z⟩) (h0 : 0 ≤ i ∧ i < s.size) : PRun P o env σ (.prim (.int .u8 ((s.data.toList.getD i.toNat 0).toNat))) :=
  PRun.indexS ho (Rd.w hx nx) (Rd.w hy ny) (LOk.of (hT.get hl)) h0.1 h0.2
theorem PRun.extractW {x : Operand} {k : Nat} {cs : List AV} {c u : AV} (ho : o.op = .extract x k) (hx : rdv env x = some (.tup cs)) (nx : rdn env x) (hc : cs[k]? = some c) (hu : c.wh = some u) : PRun P o env σ u :=
  AV.wh_eq hu ▸ PRun.extract ho (Rd.w hx nx) hc
theorem PRun.catW {t t' : TypeId} {x y : Operand} {a b : ByteArray} (ho : o.op = .binOp .add t x y t') (hx : rdv env x = some (.str a)) (nx : rdn env x) (hy : rdv env y = some (.str b)) (ny : rdn env y) (hb : a.size + b.size ≤ 9223372036854775807) :
    PRun P o env σ (.str (a ++ b)) := PRun.cat ho (Rd.w hx nx) (Rd.w hy ny) hb
theorem PRun.makeFuncW {f : Fn} {first caps : Array Operand} (ho : o.op = .makeFunc f first caps) (hn : (∀ x ∈ first.toList, rdn env x) ∧ ∀ x ∈ caps.toList, rdn env x) {a c : List AV} (ha : first.toList.mapM (rdv env) = some a) (hc : caps.toList.mapM (rdv env) = some c) :
    PRun P o env σ (.fn f a c) := by
  refine .of fun G A w hs hv => ⟨.func f (first.map A.eval) (caps.map A.eval), by simp [execOp, ho, Instr.makeFunc], ?_⟩
  have key : ∀ (l : List Operand) (a : List AV), (∀ x ∈ l, x ∈ o.op.operands) → (∀ x ∈ l, rdn env x) → l.mapM (rdv env) = some a → a.length = l.length ∧ ∀ (i : Nat) (u : AV), a[i]? = some u → VRel G.M G.B u (((l.map A.eval)[i]?).getD undef) := by
    intro l
    induction l with
    | nil => intro a _ _ h; simp at h; subst h; exact ⟨rfl, fun i u h => by simp at h⟩
    | cons x l ih =>
      intro a hm hn h
      simp only [List.mapM_cons, Option.bind_eq_bind, Option.pure_def] at h
      cases hx : rdv env x with
      | none => simp [hx] at h
      | some u =>
        cases hl : l.mapM (rdv env) with
        | none => simp [hx, hl] at h
        | some a' =>
          simp [hx, hl] at h; subst h
          obtain ⟨h1, h2⟩ := ih a' (fun y hy => hm y (List.mem_cons_of_mem _ hy)) (fun y hy => hn y (List.mem_cons_of_mem _ hy)) hl
          refine ⟨by simp [h1], fun i u' hi => ?_⟩
          cases i with
          | zero =>
            simp at hi; subst hi
            simpa using rd (Rd.w hx (hn x (List.mem_cons_self ..))) (hm x (List.mem_cons_self ..)) hv
          | succ i => simp at hi ⊢; simpa using h2 i u' hi
  obtain ⟨l1, v1⟩ := key first.toList a (fun x hx => by simp [ho, Op.operands]; exact .inl (by simpa using hx)) hn.1 ha
  obtain ⟨l2, v2⟩ := key caps.toList c (fun x hx => by simp [ho, Op.operands]; exact .inr (by simpa using hx)) hn.2 hc
  refine .fn f a c _ _ (by simpa using l1.symm) (by simpa using l2.symm) (fun i u hi => ?_) fun i u hi => ?_
  · have := v1 i u hi
    simpa [Array.getD_eq_getD_getElem?] using this
  · have := v2 i u hi
    simpa [Array.getD_eq_getD_getElem?] using this

def rdns (env : Env) : List Operand → Prop
  | [] => True
  | x :: r => rdn env x ∧ rdns env r
theorem rdns_needs {env : Env} : ∀ {l : List Operand}, rdns env l → Needs env l
  | [], _ => trivial
  | x :: r, h => ⟨by
    have := h.1
    unfold rdn at this
    generalize envOp env x = e at *
    cases e with
    | when g v => exact this
    | _ => trivial, rdns_needs h.2⟩

/-- A call by a contract. -/
theorem PRun.callW {fo : Operand} {args : Array Operand} {Ts : Array TypeId} {k : Nat} {first caps avs : List AV} {r : AV} (h : PCall P k avs r)
    (ho : o.op = .call { callee := .value fo, args := args, argTypes := Ts }) (hf : rdv env fo = some (.fn (.func k) first caps)) (nf : rdn env fo)
    (ha : first.map (unb 4) ++ (args.toList.map fun x => unb 4 (envOp env x).st) ++ caps.map (unb 4) = avs) (hn : rdns env args.toList) : PRun P o env σ r :=
  PRun.callF ho (Rd.w hf nf) (rdns_needs hn) h ha
theorem PRun.callBW {fo : Operand} {args : Array Operand} {Ts : Array TypeId} {k : Nat} {first caps avs : List AV} {r : AV} (h : PCall P k avs r)
    (ho : o.op = .call { callee := .value fo, args := args, argTypes := Ts }) (hf : rdv env fo = some (.fn (.func k) first caps)) (nf : rdn env fo)
    (ha : first.map (bor 4 σ) ++ (args.toList.map fun x => bor 4 σ (envOp env x).st) ++ caps.map (bor 4 σ) = avs) (hr : flat r = true) (hn : rdns env args.toList) : PRun P o env σ r :=
  PRun.callB ho (Rd.w hf nf) (rdns_needs hn) h ha hr
end

/-- One quiet operation of a region. -/
theorem AOps.q {P : Program} {n : Nat} {ops : Array Oper} {o : Oper} {rest : List Oper} {K : Env → Store → Prop} {env : Env} {σ : Store} {v v' : AV} {g : GG} {d : Nat} (hd : o.dst = some d) (hn : decide (d < n) = true) (hg : gOf ops env o = some g)
    (h : g.holds → PRun P o env σ v) (hv : (g.wrap v).wh = some v') (hk : AOps P n ops K rest (env.put d v') σ) : AOps P n ops K (o :: rest) env σ :=
  AOps.pure (by simpa [dstOk, hd] using hn) (PStep.g hg h) (by rw [hd]; exact AV.wh_eq hv ▸ hk)
theorem AQ.q {P : Program} {ops : Array Oper} {o : Oper} {rest : List Oper} {K : Env → Prop} {env : Env} {σ : Store} {v v' : AV} {g : GG} {d : Nat} (hd : o.dst = some d) (hg : gOf ops env o = some g)
    (h : g.holds → PRun P o env σ v) (hv : (g.wrap v).wh = some v') (hk : AQ P ops σ K rest (env.put d v')) : AQ P ops σ K (o :: rest) env := ⟨_, PStep.g hg h, by rw [hd]; exact AV.wh_eq hv ▸ hk⟩
theorem AOps.nil {P : Program} {n : Nat} {ops : Array Oper} {K : Env → Store → Prop} {env : Env} {σ : Store} (h : K env σ) : AOps P n ops K [] env σ := h
theorem AQ.nil {P : Program} {ops : Array Oper} {K : Env → Prop} {env : Env} {σ : Store} (h : K env) : AQ P ops σ K [] env := h
/-- One operation that changes objects. -/
theorem AOps.e {P : Program} {n : Nat} {ops : Array Oper} {o : Oper} {rest : List Oper} {K : Env → Store → Prop} {env : Env} {σ : Store} (h : EStep P n ops o (AOps P n ops K rest) env σ) : AOps P n ops K (o :: rest) env σ := h

section
variable {P : Program} {n : Nat} {ops : Array Oper} {o : Oper} {env : Env} {σ : Store} {k : Env → Store → Prop} {T : Tab}
theorem EStep.boxW {t : TypeId} {x : Operand} {u : AV} {d : Nat} {cs cs' : List AV} (ho : o.op = .box t x) (hg : o.guard = none) (hd : o.dst = some d) (hdn : (decide (d < n)) = true) (hx : rdv env x = some u) (nx : rdn env x) (hc : cellsAV u = some cs) (hf : forceL cs = some cs')
    (hk : k (env.put d (.ptr σ.length 0)) (σ ++ [.var cs'])) : EStep P n ops o k env σ := EStep.box ho hg hd (of_decide_eq_true hdn) (Rd.w hx nx) hc (forceL_eq hf ▸ hk)
theorem EStep.allocW (hT : T.Ok P) {t : TypeId} {d : Nat} {li : LI} {cs : List AV} (ho : o.op = .alloc t) (hg : o.guard = none) (hd : o.dst = some d) (hdn : (decide (d < n)) = true) (hl : T.get t = some li) (hf : forceL (li.zero.map Z.av) = some cs)
    (hk : k (env.put d (.ptr σ.length 0)) (σ ++ [.var cs])) : EStep P n ops o k env σ := EStep.alloc ho hg hd (of_decide_eq_true hdn) (LOk.of (hT.get hl)) (forceL_eq hf ▸ hk)
theorem EStep.storeW (hT : T.Ok P) {t : TypeId} {x y : Operand} {l off : Nat} {u : AV} {cs us cs' : List AV} {li : LI} (ho : o.op = .store t x y) (hg : o.guard = none) (hx : rdv env x = some (.ptr l off)) (nx : rdn env x) (hσ : σ[l]? = some (.var cs))
    (hy : rdv env y = some u) (ny : rdn env y) (hc : cellsAV u = some us) (hone : us.all oneAV = true) (hl : T.get t = some li) (hsz : li.size = us.length) (hle : (decide (off + us.length ≤ cs.length)) = true) (hdn : dstOk n o = true) (hf : forceL (splice cs off us) = some cs')
    (hk : k (env.putO o.dst .any) (σ.set l (.var cs'))) : EStep P n ops o k env σ :=
  EStep.store ho hg (Rd.w hx nx) hσ (Rd.w hy ny) hc hone (LOk.of (hT.get hl)) hsz (of_decide_eq_true hle) hdn (forceL_eq hf ▸ hk)
end

/-- A test of the code. -/
theorem AWP.condW {P : Program} {n : Nat} {K : Exit → Env → Store → Prop} {env : Env} {σ : Store} {t : Nat} {x y : Code} {v : Bool} (hv : rdv env (.tmp t) = some (.b v)) (hn : rdn env (.tmp t)) (ht : v = true → AWP P n x K env σ) (hf : v = false → AWP P n y K env σ) :
    AWP P n (.cond (.tmp t) x y) K env σ :=
  AWP.cond rfl (fun M B z hz => VRel.prim_eq (Rd.w hv hn M B z hz)) ht hf
end Go.Ab
