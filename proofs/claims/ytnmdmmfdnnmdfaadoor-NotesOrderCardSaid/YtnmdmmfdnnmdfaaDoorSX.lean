/- Small rules: a value told otherwise, conversions, arguments told more closely, an array that is built. No statement is proved here. -/
import Derived.Test.YtnmdmmfdnnmdfaaDoorCW
import Derived.Test.YtnmdmmfdnnmdfaaDoorM6
import Derived.Test.YtnmdmmfdnnmdfaaDoorM3
set_option linter.unusedVariables false
set_option linter.unusedSimpArgs false
namespace Go.Ab
theorem PRun.eq {P : Program} {o : Oper} {env : Env} {σ : Store} {v v' : AV} (h : PRun P o env σ v) (e : v = v') : PRun P o env σ v' := e ▸ h
theorem PRun.convV {P : Program} {T : Tab} (hT : T.Ok P) {o : Oper} {env : Env} {σ : Store} {s d : TypeId} {x : Operand} {k k' : IntKind} {a r : Int} {lis : LI} {sz by' : Nat} {z : List Z} (h : k'.wrap a = r) (ho : o.op = .convert s d x) (hx : rdv env x = some (.prim (.int k a))) (nx : rdn env x) (hs' : T.get s = some lis) (hl : T.get d = some ⟨.int k', sz, by', z⟩) :
    PRun P o env σ (.prim (.int k' r)) := h ▸ PRun.convW hT ho hx nx hs' hl
theorem PRun.remV {P : Program} {o : Oper} {env : Env} {σ : Store} {t t' : TypeId} {x y : Operand} {k : IntKind} {a b r : Int} (h : a.tmod b = r) (hb : b ≠ 0) (ho : o.op = .binOp .rem t x y t') (hx : rdv env x = some (.prim (.int k a))) (nx : rdn env x) (hy : rdv env y = some (.prim (.int k b))) (ny : rdn env y) :
    PRun P o env σ (.prim (.int k r)) := h ▸ PRun.rem ho (Rd.w hx nx) (Rd.w hy ny) hb
/-- The second argument may be told more closely. -/
theorem PCall.argE2 {P : Program} {f : FuncId} {w u v : AV} {l : List AV} {r : AV} (he : Ent u v) (h : PCall P f (w :: v :: l) r) : PCall P f (w :: u :: l) r :=
  ⟨h.1, fun M W vs hm ha => h.2 M W vs hm ⟨ha.1, fun i c hi => by
    match i, hi with
    | 0, hi => exact ha.2 0 c hi
    | 1, hi =>
      have h1 := ha.2 1 u rfl
      simp at hi; subst hi
      exact he _ _ h1
    | i + 2, hi => exact ha.2 (i + 2) c hi⟩⟩
/-- An array that is built. -/
def buildAF (T : Tab) (env : Env) (t : TypeId) (parts : List (Nat × Operand)) : Option AV := match T.get t, partsF env parts with
  | some ⟨.arr _ e, _, _, zs⟩, some ps => match T.get e with
    | some le => match fillA (fun i => some (i * le.size, le.size)) (zs.map Z.av) ps with
      | some r => (forceL r).map .agg
      | none => none
    | none => none
  | _, _ => none
theorem PRun.buildAW {P : Program} {T : Tab} {o : Oper} {env : Env} {σ : Store} (hT : T.Ok P) {t : TypeId} {parts : Array (Nat × Operand)} {r : AV} (ho : o.op = .build t parts) (h : buildAF T env t parts.toList = some r) (hn : rdns env (parts.toList.map (·.2))) : PRun P o env σ r := by
  unfold buildAF at h
  split at h
  · rename_i nn e s b zs ps hg hp
    split at h
    · rename_i le he
      split at h
      · rename_i r' hf
        simp only [Option.map_eq_some_iff] at h
        obtain ⟨r2, h2, rfl⟩ := h
        rw [← forceL_eq h2]
        exact PRun.buildA ho (LOk.of (hT.get hg)) (LOk.of (hT.get he)) hp hn hf
      · simp at h
    · simp at h
  · simp at h
end Go.Ab
