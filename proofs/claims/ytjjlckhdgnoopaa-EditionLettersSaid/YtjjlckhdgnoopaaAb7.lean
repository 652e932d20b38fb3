/- One quiet operation, computed. -/
import Derived.Test.YtjjlckhdgnoopaaAb6
namespace Go.Ab

def InI64 (n : Int) : Prop := -9223372036854775808 ≤ n ∧ n ≤ 9223372036854775807

/-- A binary operator on scalars: what it gives, under which condition. -/
def binF (T : Tab) (t : TypeId) : BinOp → Value → Value → Option (Value × Prop)
  | .add, .int .i64 a, .int .i64 b => some (.int .i64 (a + b), InI64 (a + b))
  | .sub, .int .i64 a, .int .i64 b => some (.int .i64 (a - b), InI64 (a - b))
  | .mul, .int .i64 a, .int .i64 b => some (.int .i64 (a * b), InI64 (a * b))
  | .quo, .int k a, .int k' b => if k = k' then some (.int k (k.wrap (a.tdiv b)), b ≠ 0) else none
  | .rem, .int k a, .int k' b => if k = k' then some (.int k (a.tmod b), b ≠ 0) else none
  | .add, .string a, .string b => some (.string (a ++ b), a.size + b.size ≤ 9223372036854775807)
  | .eql, .bool a, .bool b => match T.get t with | some ⟨.bool, _, _, _⟩ => some (.bool (a == b), True) | _ => none
  | .neq, .bool a, .bool b => match T.get t with | some ⟨.bool, _, _, _⟩ => some (.bool (a != b), True) | _ => none
  | op, x, y => match binPrim op x y with | some r => some (r, True) | none => none

theorem PRun.binF {P : Program} {o : Oper} {env : Env} {σ : Store} {T : Tab} (hT : T.Ok P) {op : BinOp} {t t' : TypeId} {x y : Operand} {vx vy r : Value} {c : Prop} (ho : o.op = .binOp op t x y t') (hx : Rd env x (.prim vx)) (hy : Rd env y (.prim vy))
    (hr : binF T t op vx vy = some (r, c)) (hc : c) : PRun P o env σ (.prim r) := by
  unfold Go.Ab.binF at hr
  split at hr
  · simp only [Option.some.injEq, Prod.mk.injEq] at hr; obtain ⟨rfl, rfl⟩ := hr
    exact PRun.bin ho hx hy (by simp [binPrim, wrap64_in hc])
  · simp only [Option.some.injEq, Prod.mk.injEq] at hr; obtain ⟨rfl, rfl⟩ := hr
    exact PRun.bin ho hx hy (by simp [binPrim, wrap64_in hc])
  · simp only [Option.some.injEq, Prod.mk.injEq] at hr; obtain ⟨rfl, rfl⟩ := hr
    exact PRun.bin ho hx hy (by simp [binPrim, wrap64_in hc])
  · split at hr
    · rename_i hk; subst hk
      simp only [Option.some.injEq, Prod.mk.injEq] at hr; obtain ⟨rfl, rfl⟩ := hr
      exact PRun.quo ho hx hy hc
    · simp at hr
  · split at hr
    · rename_i hk; subst hk
      simp only [Option.some.injEq, Prod.mk.injEq] at hr; obtain ⟨rfl, rfl⟩ := hr
      exact PRun.rem ho hx hy hc
    · simp at hr
  · simp only [Option.some.injEq, Prod.mk.injEq] at hr; obtain ⟨rfl, rfl⟩ := hr
    exact PRun.cat ho hx hy hc
  · split at hr
    · rename_i hg
      simp only [Option.some.injEq, Prod.mk.injEq] at hr; obtain ⟨rfl, rfl⟩ := hr
      exact PRun.eqBool ho hx hy (LOk.of (hT.get hg))
    · simp at hr
  · split at hr
    · rename_i hg
      simp only [Option.some.injEq, Prod.mk.injEq] at hr; obtain ⟨rfl, rfl⟩ := hr
      exact PRun.neBool ho hx hy (LOk.of (hT.get hg))
    · simp at hr
  · split at hr
    · rename_i hb
      simp only [Option.some.injEq, Prod.mk.injEq] at hr; obtain ⟨rfl, rfl⟩ := hr
      exact PRun.bin ho hx hy hb
    · simp at hr

def rds (env : Env) : List Operand → Option (List AV)
  | [] => some []
  | x :: r => match rdv env x, rds env r with
    | some u, some us => some (u :: us)
    | _, _ => none
theorem rds_eq {env : Env} : ∀ {l : List Operand} {a : List AV}, rds env l = some a → l.mapM (rdv env) = some a
  | [], a, h => by simp [rds] at h; subst h; rfl
  | x :: r, a, h => by
    simp only [rds] at h
    split at h
    · rename_i u us h1 h2
      simp at h; subst h
      simp [List.mapM_cons, h1, rds_eq h2]
    · simp at h
theorem rdns_all {env : Env} : ∀ {l : List Operand}, rdns env l → ∀ x ∈ l, rdn env x
  | _ :: _, h, x, hx => by
    rcases List.mem_cons.1 hx with rfl | hx
    · exact h.1
    · exact rdns_all h.2 x hx

/-- What a quiet operation gives, and under which condition; slices' elements and lengths are not its part. -/
def stepF (T : Tab) (env : Env) (σ : Store) (o : Oper) : Option (AV × Prop) :=
  match o.op with
  | .move x => match rdv env x with | some u => some (u, rdn env x) | none => none
  | .assign x => match rdv env x with | some u => some (u, rdn env x) | none => none
  | .pick c x (.const (.bool false)) => match rdv env c, rdv env x with
    | some (.prim (.bool t)), some (.prim (.bool u)) => some (.b (t && u), rdn env c ∧ (t = true → rdn env x))
    | _, _ => none
  | .pick c (.const (.bool true)) x => match rdv env c, rdv env x with
    | some (.prim (.bool t)), some (.prim (.bool u)) => some (.b (t || u), rdn env c ∧ (t = false → rdn env x))
    | _, _ => none
  | .binOp op t x y _ => match rdv env x, rdv env y with
    | some (.prim vx), some (.prim vy) => match binF T t op vx vy with
      | some (r, c) => some (.prim r, rdn env x ∧ rdn env y ∧ c)
      | none => none
    | _, _ => none
  | .unOp .not _ x => match rdv env x with | some (.prim (.bool a)) => some (.b (!a), rdn env x) | _ => none
  | .unOp .neg _ x => match rdv env x with | some (.prim (.int .i64 a)) => some (.int (-a), rdn env x ∧ InI64 (0 - a)) | _ => none
  | .convert s d x => match rdv env x, T.get s, T.get d with
    | some (.prim (.int _ a)), some _, some ⟨.int k', _, _, _⟩ => some (.prim (.int k' (k'.wrap a)), rdn env x)
    | _, _, _ => none
  | .fieldAddr s x f => match rdv env x, fieldOf T s f with
    | some (.iptr cs), some (_, off, _) => match dropF off cs with | some cs' => some (.iptr cs', rdn env x) | none => none
    | some (.ptr l o'), some (_, off, _) => some (.ptr l (o' + off), rdn env x)
    | _, _ => none
  | .load t x => match rdv env x, T.get t with
    | some (.iptr cs), some li => match takeF li 0 cs with | some u => some (u, rdn env x) | none => none
    | some (.ptr l off), some li => match σ[l]? with
      | some (.var cs) => match takeF li off cs with | some u => some (u, rdn env x) | none => none
      | _ => none
    | _, _ => none
  | .field t x f => match rdv env x, fieldOf T t f with
    | some (.agg cs), some (ft, off, _) => match T.get ft with
      | some li => match takeF li off cs with | some u => some (u, rdn env x) | none => none
      | none => none
    | _, _ => none
  | .index t x y => match rdv env x, rdv env y, T.get t with
    | some (.prim (.string s)), some (.prim (.int _ i)), some ⟨.str, _, _, _⟩ => some (.prim (.int .u8 ((s.data.toList.getD i.toNat 0).toNat)), rdn env x ∧ rdn env y ∧ 0 ≤ i ∧ i < s.size)
    | _, _, _ => none
  | .extract x k => match rdv env x with
    | some (.tup cs) => match cs[k]? with
      | some c => match c.wh with | some u => some (u, rdn env x) | none => none
      | none => none
    | _ => none
  | .makeFunc f first caps => match rds env first.toList, rds env caps.toList with
    | some a, some c => some (.fn f a c, rdns env first.toList ∧ rdns env caps.toList)
    | _, _ => none
  | .call { callee := .builtin .len, args := ⟨[x]⟩, argTypes := ⟨[t]⟩ } => match rdv env x, T.get t with
    | some (.prim (.string s)), some ⟨.str, _, _, _⟩ => some (.int s.size, rdn env x)
    | some .nils, some ⟨.slice _, _, _, _⟩ => some (.int 0, rdn env x)
    | _, _ => none
  | .call { callee := .builtin .max, args := ⟨[x, y]⟩, argTypes := _ } => match rdv env x, rdv env y with
    | some (.prim (.int k a)), some (.prim (.int k' b)) => if k = k' then some (.prim (.int k (Max.max a b)), rdn env x ∧ rdn env y) else none
    | _, _ => none
  | .call { callee := .builtin .min, args := ⟨[x, y]⟩, argTypes := _ } => match rdv env x, rdv env y with
    | some (.prim (.int k a)), some (.prim (.int k' b)) => if k = k' then some (.prim (.int k (Min.min a b)), rdn env x ∧ rdn env y) else none
    | _, _ => none
  | _ => none

theorem PRun.step {P : Program} {T : Tab} (hT : T.Ok P) {o : Oper} {env : Env} {σ : Store} {v : AV} {c : Prop} (h : stepF T env σ o = some (v, c)) (hc : c) : PRun P o env σ v := by
  unfold stepF at h
  split at h
  case h_1 x ho =>
    split at h
    · rename_i u hu; simp only [Option.some.injEq, Prod.mk.injEq] at h; obtain ⟨rfl, rfl⟩ := h; exact PRun.moveW ho hu hc
    · simp at h
  case h_2 x ho =>
    split at h
    · rename_i u hu; simp only [Option.some.injEq, Prod.mk.injEq] at h; obtain ⟨rfl, rfl⟩ := h; exact PRun.assignW ho hu hc
    · simp at h
  case h_3 c' x ho =>
    split at h
    · rename_i t u h1 h2; simp only [Option.some.injEq, Prod.mk.injEq] at h; obtain ⟨rfl, rfl⟩ := h; exact PRun.andW ho h1 hc.1 h2 hc.2
    · simp at h
  case h_4 c' x ho =>
    split at h
    · rename_i t u h1 h2; simp only [Option.some.injEq, Prod.mk.injEq] at h; obtain ⟨rfl, rfl⟩ := h; exact PRun.orW ho h1 hc.1 h2 hc.2
    · simp at h
  case h_5 op t x y t' ho =>
    split at h
    · rename_i vx vy hx hy
      split at h
      · rename_i r c' hr
        simp only [Option.some.injEq, Prod.mk.injEq] at h; obtain ⟨rfl, rfl⟩ := h
        exact PRun.binF hT ho (Rd.w hx hc.1) (Rd.w hy hc.2.1) hr hc.2.2
      · simp at h
    · simp at h
  case h_6 t x ho =>
    split at h
    · rename_i a ha; simp only [Option.some.injEq, Prod.mk.injEq] at h; obtain ⟨rfl, rfl⟩ := h; exact PRun.notW ho ha hc
    · simp at h
  case h_7 t x ho =>
    split at h
    · rename_i a ha; simp only [Option.some.injEq, Prod.mk.injEq] at h; obtain ⟨rfl, rfl⟩ := h; exact PRun.negW ho ha hc.1 hc.2
    · simp at h
  case h_8 s d x ho =>
    split at h
    · rename_i a li k' _ _ _ hx hs hd; simp only [Option.some.injEq, Prod.mk.injEq] at h; obtain ⟨rfl, rfl⟩ := h; exact PRun.convW hT ho hx hc hs hd
    · simp at h
  case h_9 s x f ho =>
    split at h
    · rename_i cs ft off sz hx hf
      split at h
      · rename_i cs' hd; simp only [Option.some.injEq, Prod.mk.injEq] at h; obtain ⟨rfl, rfl⟩ := h; exact PRun.fieldIW hT ho hx hc hf hd
      · simp at h
    · rename_i l o' ft off sz hx hf; simp only [Option.some.injEq, Prod.mk.injEq] at h; obtain ⟨rfl, rfl⟩ := h; exact PRun.fieldPW hT ho hx hc hf
    · simp at h
  case h_10 t x ho =>
    split at h
    · rename_i cs li hx hl
      split at h
      · rename_i u hu; simp only [Option.some.injEq, Prod.mk.injEq] at h; obtain ⟨rfl, rfl⟩ := h; exact PRun.loadIW hT ho hx hc hl hu
      · simp at h
    · rename_i l off li hx hl
      split at h
      · rename_i cs hσ
        split at h
        · rename_i u hu; simp only [Option.some.injEq, Prod.mk.injEq] at h; obtain ⟨rfl, rfl⟩ := h; exact PRun.loadPW hT ho hx hc hσ hl hu
        · simp at h
      · simp at h
    · simp at h
  case h_11 t x f ho =>
    split at h
    · rename_i cs ft off sz hx hf
      split at h
      · rename_i li hl
        split at h
        · rename_i u hu; simp only [Option.some.injEq, Prod.mk.injEq] at h; obtain ⟨rfl, rfl⟩ := h; exact PRun.fldW hT ho hx hc hf hl hu
        · simp at h
      · simp at h
    · simp at h
  case h_12 t x y ho =>
    split at h
    · rename_i s k i _ _ _ hx hy hl; simp only [Option.some.injEq, Prod.mk.injEq] at h; obtain ⟨rfl, rfl⟩ := h; exact PRun.indexSW hT ho hx hc.1 hy hc.2.1 hl hc.2.2
    · simp at h
  case h_13 x k ho =>
    split at h
    · rename_i cs hx
      split at h
      · rename_i c' hk
        split at h
        · rename_i u hu; simp only [Option.some.injEq, Prod.mk.injEq] at h; obtain ⟨rfl, rfl⟩ := h; exact PRun.extractW ho hx hc hk hu
        · simp at h
      · simp at h
    · simp at h
  case h_14 f first caps ho =>
    split at h
    · rename_i a c' ha hcs; simp only [Option.some.injEq, Prod.mk.injEq] at h; obtain ⟨rfl, rfl⟩ := h
      exact PRun.makeFuncW ho ⟨rdns_all hc.1, rdns_all hc.2⟩ (rds_eq ha) (rds_eq hcs)
    · simp at h
  case h_15 x t ho =>
    split at h
    · rename_i s _ _ _ hx hl; simp only [Option.some.injEq, Prod.mk.injEq] at h; obtain ⟨rfl, rfl⟩ := h; exact PRun.lenStrW hT ho hx hc hl
    · rename_i e _ _ _ hx hl; simp only [Option.some.injEq, Prod.mk.injEq] at h; obtain ⟨rfl, rfl⟩ := h; exact PRun.lenNilW hT ho hx hc hl
    · simp at h
  case h_16 x y ts ho =>
    split at h
    · rename_i k a k' b hx hy
      split at h
      · rename_i hk; subst hk; simp only [Option.some.injEq, Prod.mk.injEq] at h; obtain ⟨rfl, rfl⟩ := h; exact PRun.maxW ho hx hc.1 hy hc.2
      · simp at h
    · simp at h
  case h_17 x y ts ho =>
    split at h
    · rename_i k a k' b hx hy
      split at h
      · rename_i hk; subst hk; simp only [Option.some.injEq, Prod.mk.injEq] at h; obtain ⟨rfl, rfl⟩ := h; exact PRun.minW ho hx hc.1 hy hc.2
      · simp at h
    · simp at h
  case h_18 => simp at h

/-- The same rules with what comes behind the region kept behind a name. -/
theorem AWP.regionK {P : Program} {n : Nat} {id : Nat} {l : List Oper} {K : Exit → Env → Store → Prop} {env : Env} {σ : Store}
    (h : ∀ K' : Env → Store → Prop, (∀ e s, K .normal e s → K' e s) → AOps P n l.toArray K' l env σ) : AWP P n (.region id l.toArray false) K env σ := AWP.region (h _ fun _ _ h => h)
theorem AWP.drawK {P : Program} {n : Nat} {id : Nat} {l : List Oper} {K : Exit → Env → Store → Prop} {env : Env} {σ : Store}
    (hm : P.follows .mixedOrders = true) (hB : Region.lexB .any l.toArray = true) (hd : dstsOk n l.toArray = true)
    (h : ∀ K' : Env → Prop, (∀ e, K .normal e σ → K' e) → AQ P l.toArray σ K' l env) : AWP P n (.region id l.toArray true) K env σ := AWP.region_draw hm hB hd (h _ fun _ h => h)
end Go.Ab
