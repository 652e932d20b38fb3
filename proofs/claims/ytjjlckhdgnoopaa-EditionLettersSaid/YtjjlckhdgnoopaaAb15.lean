/- Results that lie in a variable; structs that are compared; structs and slices that are built, in the walk's form. -/
import Derived.Test.YtjjlckhdgnoopaaAb14
namespace Go.Ab

/-! ### Results that lie in a variable -/
def rvA (T : Tab) (e : Env) (s : Store) : ResultVar → Option AV
  | .tmp t => some (unb 4 (e t))
  | .cell a t => match e a with
    | .ptr l off => match s[l]?, T.get t with
      | some (.var cs), some li => (takeF li off cs).map (unb 4)
      | _, _ => none
    | _ => none
def rvsA (T : Tab) (e : Env) (s : Store) : List ResultVar → Option (List AV)
  | [] => some []
  | x :: r => match rvA T e s x, rvsA T e s r with
    | some u, some us => some (u :: us)
    | _, _ => none
def retS (T : Tab) (e : Env) (s : Store) : List ResultVar → Option AV
  | [x] => rvA T e s x
  | l => (rvsA T e s l).map .tup
def retKS (T : Tab) (rs : List ResultVar) (r : AV) : Exit → Env → Store → Prop := fun x e s => (x = .normal ∨ x = .ret) ∧ ∃ u, retS T e s rs = some u ∧ Ent u r

theorem loadVar_rel {P : Program} {G : Gh} {σ : Store} {w : World} (hs : SRel G σ w) {t : TypeId} {li : LI} (hl : LOk P t li) {l off : Nat} {cs : List AV} {u : AV} {x : Value} (hx : VRel G.M G.B (.ptr l off) x) (hσ : σ[l]? = some (.var cs)) (hu : takeF li off cs = some u) :
    ∃ a v, x = .pointer (some a) ∧ (loadVar t a).run P w = .ok v w ∧ VRel G.M G.B u v := by
  obtain ⟨hu1, hle⟩ := takeF_spec hu
  cases hx with
  | ptr _ _ b hb =>
    have := hs.objs l _ _ hb hσ
    cases this with
    | var _ _ c T' fr hbb hf hlen hr hm =>
      refine ⟨_, if li.lt.isAgg then .agg ((List.range li.size).map fun j => c.getD (off + j) undef).toArray else c.getD off undef, rfl, ?_, ?_⟩
      · rw [run_loadVar hl w b off (fun j => c.getD (off + j) undef) (fun j hj => by
          have hlt : off + j < c.size := by omega
          simp [World.cell?, hbb, hlt])]
        rfl
      · rw [← hu1]
        unfold takeAV
        cases ha : li.lt.isAgg with
        | true =>
          simp only [ha, if_true] at hle ⊢
          refine .agg _ _ (by simp; omega) fun i c' hi => ?_
          rw [List.getElem?_take] at hi
          split at hi
          · rename_i hlt
            rw [List.getElem?_drop] at hi
            have := hr _ _ hi
            simpa [hlt] using this
          · simp at hi
        | false =>
          simp only [ha, Bool.false_eq_true, if_false] at hle ⊢
          have hlt : off < cs.length := by omega
          rw [List.drop_eq_getElem_cons hlt]
          exact hr off _ (List.getElem?_eq_getElem hlt)

theorem results_aux {P : Program} {T : Tab} (hT : T.Ok P) {e : Env} {s : Store} {G : Gh} {w : World} {tmps : Array Value} {u : AV} (hs : SRel G s w) (hv : ∀ i, VRel G.M G.B (e i) (tmps.getD i undef)) (f : ResultVar → Sem Value) (hf1 : ∀ t, f (.tmp t) = pure (tmps.getD t undef))
    (hf2 : ∀ a t, f (.cell a t) = (do loadVar t (← asAddr (tmps.getD a undef)))) (l : List ResultVar) (h : retS T e s l = some u) :
    ∃ v, (do let vs ← l.toArray.mapM f; pure (if h : vs.size = 1 then vs[0] else .tuple vs) : Sem Value).run P w = .ok v w ∧ VRel G.M [] u v := by
  have one : ∀ (f : ResultVar → Sem Value), (∀ t, f (.tmp t) = pure (tmps.getD t undef)) → (∀ a t, f (.cell a t) = (do loadVar t (← asAddr (tmps.getD a undef)))) → ∀ x u, rvA T e s x = some u → ∃ v, (f x).run P w = .ok v w ∧ VRel G.M [] u v := by
    intro f h1 h2 x u hx
    cases x with
    | tmp t =>
      simp only [rvA, Option.some.injEq] at hx
      subst hx
      exact ⟨_, by rw [h1]; rfl, unb_rel 4 _ _ (hv t)⟩
    | cell a t =>
      simp only [rvA] at hx
      have h3 := hv a
      cases hea : e a with
      | ptr l' off =>
        rw [hea] at hx h3
        simp only at hx
        split at hx
        · rename_i cs li hσ hg
          simp only [Option.map_eq_some_iff] at hx
          obtain ⟨u', hu', rfl⟩ := hx
          obtain ⟨ad, v, g1, g2, g3⟩ := loadVar_rel hs (LOk.of (hT.get hg)) h3 hσ hu'
          refine ⟨v, ?_, unb_rel 4 _ _ g3⟩
          rw [h2, g1, Sem.run_bind]
          exact g2
        · simp at hx
      | _ => rw [hea] at hx; simp at hx
  have key : ∀ (f : ResultVar → Sem Value), (∀ t, f (.tmp t) = pure (tmps.getD t undef)) → (∀ a t, f (.cell a t) = (do loadVar t (← asAddr (tmps.getD a undef)))) → ∀ l us, rvsA T e s l = some us → ∃ vs : List Value, Sem.run P (l.mapM f) w = Result.ok vs w ∧ vs.length = us.length ∧ us.length = l.length ∧ ∀ (i : Nat) u v, us[i]? = some u → vs[i]? = some v → VRel G.M [] u v := by
    intro f h1 h2 l
    induction l with
    | nil =>
      intro us hus
      simp only [rvsA, Option.some.injEq] at hus; subst hus
      exact ⟨[], rfl, rfl, rfl, fun i u v h => by simp at h⟩
    | cons x l ih =>
      intro us hus
      simp only [rvsA] at hus
      split at hus
      · rename_i u us' g1 g2
        simp only [Option.some.injEq] at hus; subst hus
        obtain ⟨v, g3, g4⟩ := one f h1 h2 x u g1
        obtain ⟨vs, g5, g6, g7, g8⟩ := ih us' g2
        refine ⟨v :: vs, ?_, by simp [g6], by simp [g7], fun i u' v' hu' hv' => ?_⟩
        · simp only [List.mapM_cons, Sem.run_bind, g3, Result.andThen_ok, g5]
          rfl
        · cases i with
          | zero => simp at hu' hv'; subst hu' hv'; exact g4
          | succ i => exact g8 i u' v' (by simpa using hu') (by simpa using hv')
      · simp at hus
  simp only [List.mapM_toArray, Sem.run_bind, Sem.run_map]
  match l, h with
  | [x], h =>
    simp only [retS] at h
    obtain ⟨vs, g5, g6, g7, g8⟩ := key f hf1 hf2 [x] [u] (by simp [rvsA, h])
    rw [g5]
    match vs, g6 with
    | [v], _ => exact ⟨v, rfl, g8 0 u v rfl rfl⟩
  | [], h =>
    simp only [retS, rvsA, Option.map_some, Option.some.injEq] at h; subst h
    exact ⟨.tuple #[], rfl, .tup _ _ rfl fun i c hi => by simp at hi⟩
  | x :: y :: r, h =>
    simp only [retS, Option.map_eq_some_iff] at h
    obtain ⟨us, hus, rfl⟩ := h
    obtain ⟨vs, g5, g6, g7, g8⟩ := key f hf1 hf2 _ us hus
    rw [g5]
    have hlen : vs.length = r.length + 2 := by rw [g6, g7]; rfl
    have hne : ¬ vs.toArray.size = 1 := by simp; omega
    refine ⟨.tuple vs.toArray, ?_, .tup _ _ (by simp [g6]) fun i c hi => ?_⟩
    · simp only [Result.andThen_ok, Sem.run_pure]
      rw [dif_neg hne]
    · have hlt : i < vs.length := by
        rw [g6]; rcases Nat.lt_or_ge i us.length with h | h
        · exact h
        · simp [List.getElem?_eq_none h] at hi
      have := g8 i c _ hi (List.getElem?_eq_getElem hlt)
      simpa [hlt] using this

theorem results_rel {P : Program} {T : Tab} (hT : T.Ok P) {fn : Func} {e : Env} {s : Store} {G : Gh} {w : World} {tmps : Array Value} {u : AV} (hs : SRel G s w) (hv : ∀ i, VRel G.M G.B (e i) (tmps.getD i undef)) (h : retS T e s fn.results.toList = some u) :
    ∃ v, (results fn tmps).run P w = .ok v w ∧ VRel G.M [] u v := by
  unfold results
  obtain ⟨l, hl⟩ : ∃ l, fn.results = List.toArray l := ⟨fn.results.toList, by simp⟩
  rw [hl] at h ⊢
  refine results_aux hT hs hv _ ?_ ?_ l h
  · exact fun _ => rfl
  · exact fun _ _ => rfl

theorem PCall.bodyS {P : Program} {T : Tab} (hT : T.Ok P) {f : FuncId} {fn : Func} {c : Code} {n : Nat} {avs : List AV} {r : AV} (hf : P.funcs[f]? = some fn) (hb : fn.body = some c) (hnm : (fn.name == "runtime.NumGoroutine") = false)
    (hn : fn.ntmps = n) (hle' : decide (avs.length ≤ n) = true) (h : AWP P n c (retKS T fn.results.toList r) (Env.init avs) []) : PCall P f avs r := by
  have hle : avs.length ≤ n := of_decide_eq_true hle'
  refine ⟨⟨fn, hf, by simp [hb], hnm⟩, fun M w vs hm ha => ?_⟩
  refine calls_of_wp hf hb ?_
  have hr : ARel n ⟨M, w, M, []⟩ (Env.init avs) [] { tmps := vs ++ Array.replicate (fn.ntmps - vs.size) undef, defers := [] } w := by
    refine ⟨by simp [hn, ha.1]; omega, rfl, fun i => ?_, ⟨hm, fun _ _ => ⟨fun _ => rfl, rfl⟩, ⟨Nat.le_refl _, fun _ _ => rfl⟩, rfl, fun l g o h => by simp at h, fun l g b h => by simp at h, fun l l' g g' b h => by simp at h, ⟨rfl, rfl⟩⟩⟩
    simp only [Env.init]
    cases hi : avs[i]? with
    | none => simp [List.getD, hi]; exact .any _
    | some c' =>
      have h1 := ha.2 i c' hi
      have hlt : i < vs.size := by
        rw [ha.1]
        rcases Nat.lt_or_ge i avs.length with h | h
        · exact h
        · simp [List.getElem?_eq_none h] at hi
      have e : (vs ++ Array.replicate (fn.ntmps - vs.size) undef).getD i undef = vs.getD i undef := by
        simp only [Array.getD_eq_getD_getElem?]
        rw [Array.getElem?_append_left hlt]
      rw [e]
      simpa [List.getD, hi] using h1
  refine wp_mono (h _ _ _ hr) ?_
  rintro x a' w' ⟨e, s, G', ⟨hx, u, hu, hent⟩, hg, hr'⟩
  have hpost : Post M w G'.M w' := by
    obtain ⟨g1, g2, g3, g4⟩ := hg
    simp only at g1 g2 g3
    refine ⟨g3, hr'.st.memok, ?_, fun b hb => ?_, fun b hb => ?_, by have := hr'.st.out; rwa [g2] at this⟩
    · have := hr'.st.base.1; rwa [g2] at this
    · have := hr'.st.base.2; rw [g2] at this; exact this b hb
    · have := hr'.st.m0; rw [g1, g2] at this; exact this b hb
  obtain ⟨v, h1, h2⟩ := results_rel hT hr'.st hr'.vals hu
  rcases hx with rfl | rfl
  · exact ⟨hr'.defers, v, h1, v, G'.M, rfl, hent _ _ h2, hpost⟩
  · exact ⟨hr'.defers, v, h1, v, G'.M, rfl, hent _ _ h2, hpost⟩

/-! ### Structs of scalars, compared -/
def scal : LT → Bool
  | .bool | .int _ | .str => true
  | _ => false
def flatFs (P : Program) : Nat → List Field → Option (List LT)
  | _, [] => some []
  | k, f :: r => match P.underlying f.type, P.info? f.type, flatFs P (k + 1) r with
    | some d, some i, some l => if f.name ≠ "_" ∧ f.offset = k ∧ i.size = 1 ∧ scal (ltOf P d) = true then some (ltOf P d :: l) else none
    | _, _, _ => none
/-- The scalars of a struct that may be compared. -/
def flatOf (P : Program) (t : TypeId) : Option (List LT) := match P.underlying t with
  | some (.struct F) => if P.stoodInHeld t = false ∧ P.eqGuardType P.depth t = false then flatFs P 0 F.toList else none
  | _ => none

def eqV : LT → Value → Value → Option Bool
  | .bool, .bool a, .bool b => some (a == b)
  | .int _, .int k a, .int k' b => if k = k' then some (a == b) else none
  | .str, .string a, .string b => some (a == b)
  | _, _, _ => none
def eqVs : List LT → List AV → List AV → Option Bool
  | [], [], [] => some true
  | t :: ts, .prim a :: r, .prim b :: s => match eqV t a b, eqVs ts r s with
    | some h, some u => some (h && u)
    | _, _ => none
  | _, _, _ => none

theorem run_eqV {P : Program} {t : TypeId} {d : TypeDesc} {a b : Value} {r : Bool} (hd : P.underlying t = some d) (h : eqV (ltOf P d) a b = some r) (n : Nat) (w : World) : (Op.equalIn (n + 1) t a b).run P w = .ok r w := by
  rw [Op.equalIn, Sem.run_bind, run_underlying hd w]
  simp only [Result.andThen_ok]
  unfold eqV at h
  split at h <;> rename_i hlt
  · cases d <;> simp [ltOf] at hlt
    simp at h; subst h; rfl
  · cases d <;> simp [ltOf] at hlt
    split at h
    · rename_i hk
      simp at h; subst h; subst hk; simp
    · simp at h
  · cases d <;> simp [ltOf] at hlt
    simp at h; subst h; rfl
  · simp at h

theorem run_partV {P : Program} {t : TypeId} {d : TypeDesc} {i : TypeInfo} (hd : P.underlying t = some d) (hi : P.info? t = some i) (hsc : scal (ltOf P d) = true) (cs : Array Value) (off : Nat) (h : off < cs.size) (w : World) : (part t cs off).run P w = .ok (cs.getD off undef) w := by
  have ha : (isAgg t).run P w = .ok false w := by
    unfold isAgg
    rw [Sem.run_bind, run_underlying hd w]
    cases d <;> simp [ltOf, scal] at hsc <;> rfl
  unfold part
  rw [Sem.run_bind, ha]
  simp [h]

theorem run_eqFs {P : Program} (n : Nat) (w : World) (xs ys : Array Value) : ∀ (F : List Field) (k : Nat) (ts : List LT) (us vs : List AV) (r : Bool), flatFs P k F = some ts → eqVs ts us vs = some r →
    (∀ i, i < us.length → k + i < xs.size ∧ ∀ a, us[i]? = some (.prim a) → xs.getD (k + i) undef = a) → (∀ i, i < vs.length → k + i < ys.size ∧ ∀ a, vs[i]? = some (.prim a) → ys.getD (k + i) undef = a) →
    (do for f in F do
          if f.name ≠ "_" then
            if !(← Op.equalIn (n + 1) f.type (← part f.type xs f.offset) (← part f.type ys f.offset)) then return false
        pure true : Sem Bool).run P w = .ok r w := by
  intro F
  induction F with
  | nil =>
    intro k ts us vs r h1 h2 _ _
    simp only [flatFs, Option.some.injEq] at h1; subst h1
    match us, vs, h2 with
    | [], [], h2 => simp [eqVs] at h2; subst h2; rfl
  | cons f F ih =>
    intro k ts us vs r h1 h2 hx hy
    simp only [flatFs] at h1
    split at h1
    · rename_i d i l hd hi hF
      split at h1
      · rename_i hc
        obtain ⟨c1, c2, c3, c4⟩ := hc
        simp only [Option.some.injEq] at h1; subst h1
        match us, vs, h2 with
        | .prim a :: us, .prim b :: vs, h2 =>
          simp only [eqVs] at h2
          split at h2
          · rename_i h0 u0 g1 g2
            simp only [Option.some.injEq] at h2; subst h2
            obtain ⟨x1, x2⟩ := hx 0 (by simp)
            obtain ⟨y1, y2⟩ := hy 0 (by simp)
            have ex := x2 a rfl
            have ey := y2 b rfl
            simp only [Nat.add_zero] at x1 y1 ex ey
            have e1 := run_partV hd hi c4 xs k x1 w
            have e2 := run_partV hd hi c4 ys k y1 w
            rw [ex] at e1; rw [ey] at e2
            have e3 := run_eqV hd g1 n w
            have ih' := ih (k + 1) l us vs u0 hF g2 (fun i hi' => by
              have := hx (i + 1) (by simpa using hi')
              simp only [List.getElem?_cons_succ] at this
              have e : k + (i + 1) = k + 1 + i := by omega
              rwa [e] at this) (fun i hi' => by
              have := hy (i + 1) (by simpa using hi')
              simp only [List.getElem?_cons_succ] at this
              have e : k + (i + 1) = k + 1 + i := by omega
              rwa [e] at this)
            simp only [List.forIn_cons, c2]
            cases h0 with
            | true =>
              simp only [Bool.true_and]
              rw [← ih']
              simp only [ne_eq, c1, not_false_eq_true, if_true, Sem.run_bind, e1, e2, e3, Result.andThen_ok]
              simp
            | false =>
              simp only [ne_eq, c1, not_false_eq_true, if_true, Sem.run_bind, e1, e2, e3, Result.andThen_ok]
              simp
          · simp at h2
      · simp at h1
    · simp at h1


theorem eqVs_len : ∀ {ts : List LT} {us vs : List AV} {r : Bool}, eqVs ts us vs = some r → us.length = ts.length ∧ vs.length = ts.length
  | [], [], [], _, _ => ⟨rfl, rfl⟩
  | t :: ts, .prim a :: us, .prim b :: vs, r, h => by
    simp only [eqVs] at h
    split at h
    · rename_i g1 g2
      have := eqVs_len g2
      simp [this.1, this.2]
    · simp at h

theorem run_eqS {P : Program} {t : TypeId} {ts : List LT} (hfl : flatOf P t = some ts) {M : Mem} {B : List GB} {us vs : List AV} {x y : Value} {r : Bool} (hx : VRel M B (.agg us) x) (hy : VRel M B (.agg vs) y) (h : eqVs ts us vs = some r) (w : World) :
    ∃ xs ys, x = .agg xs ∧ y = .agg ys ∧ P.eqGuardType P.depth t = false ∧ (Op.equal t x y).run P w = .ok r w := by
  unfold flatOf at hfl
  split at hfl
  · rename_i F hF
    split at hfl
    · rename_i hg
      obtain ⟨g1, g2⟩ := hg
      have key : ∀ {us : List AV} {x : Value}, VRel M B (.agg us) x → ∃ xs, x = .agg xs ∧ ∀ i, i < us.length → 0 + i < xs.size ∧ ∀ a, us[i]? = some (.prim a) → xs.getD (0 + i) undef = a := by
        intro us x hx
        cases hx with
        | agg _ xs hl hr =>
          refine ⟨xs, rfl, fun i hi => ⟨by omega, fun a ha => ?_⟩⟩
          rw [Nat.zero_add]
          exact VRel.prim_eq (hr i _ ha)
      obtain ⟨xs, rfl, kx⟩ := key hx
      obtain ⟨ys, rfl, ky⟩ := key hy
      refine ⟨xs, ys, rfl, rfl, g2, ?_⟩
      have e := run_eqFs 9998 w xs ys F.toList 0 ts us vs r hfl h kx ky
      show (Op.equalIn (9999 + 1) t (.agg xs) (.agg ys)).run P w = _
      rw [Op.equalIn, Sem.run_bind, run_underlying hF w]
      simp only [Result.andThen_ok]
      have ep : Sem.run P (do let p ← program; pure p : Sem Program) w = .ok P w := rfl
      simp only [Sem.run_bind, run_program, Result.andThen_ok, g1, Bool.false_eq_true, if_false]
      obtain ⟨l, rfl⟩ : ∃ l, F = List.toArray l := ⟨F.toList, by simp⟩
      simp only [List.forIn_toArray]
      simpa [Sem.run_bind] using e
    · simp at hfl
  · simp at hfl

section
variable {P : Program} {T : Tab} {o : Oper} {env : Env} {σ : Store}

theorem PRun.eqS {t t' : TypeId} {ts : List LT} (hfl : flatOf P t = some ts) {x y : Operand} {us vs : List AV} {r : Bool} (ho : o.op = .binOp .eql t x y t') (hx : rdv env x = some (.agg us)) (nx : rdn env x) (hy : rdv env y = some (.agg vs)) (ny : rdn env y) (h : eqVs ts us vs = some r) :
    PRun P o env σ (.b r) :=
  .of fun G A w hs hv => by
    have h1 := rd (Rd.w hx nx) (by simp [ho, Op.operands]) hv
    have h2 := rd (Rd.w hy ny) (by simp [ho, Op.operands]) hv
    obtain ⟨xs, ys, e1, e2, hg, e3⟩ := run_eqS hfl h1 h2 h w
    refine ⟨_, ?_, .prim _⟩
    rw [e1, e2] at e3
    have e : binOp .eql t (.agg xs) (.agg ys) = (do pure (.bool (← Op.equal t (.agg xs) (.agg ys)))) := rfl
    simp only [execOp, ho, e1, e2, e]
    simp [eqGuard, hg, e3]

theorem PRun.neS {t t' : TypeId} {ts : List LT} (hfl : flatOf P t = some ts) {x y : Operand} {us vs : List AV} {r : Bool} (ho : o.op = .binOp .neq t x y t') (hx : rdv env x = some (.agg us)) (nx : rdn env x) (hy : rdv env y = some (.agg vs)) (ny : rdn env y) (h : eqVs ts us vs = some r) :
    PRun P o env σ (.b (!r)) :=
  .of fun G A w hs hv => by
    have h1 := rd (Rd.w hx nx) (by simp [ho, Op.operands]) hv
    have h2 := rd (Rd.w hy ny) (by simp [ho, Op.operands]) hv
    obtain ⟨xs, ys, e1, e2, hg, e3⟩ := run_eqS hfl h1 h2 h w
    refine ⟨_, ?_, .prim _⟩
    rw [e1, e2] at e3
    have e : binOp .neq t (.agg xs) (.agg ys) = (do pure (.bool (!(← Op.equal t (.agg xs) (.agg ys))))) := rfl
    simp only [execOp, ho, e1, e2, e]
    simp [eqGuard, hg, e3]

/-- A struct that is built. -/
def fsOf (T : Tab) (t : TypeId) : Option (List (Nat × Nat × Nat) × Nat × Nat × List Z) := match T.get t with
  | some ⟨.struct fs, s, b, z⟩ => if fs.all (fun x => x.2.2 != 0) then some (fs, s, b, z) else none
  | _ => none
def buildF (T : Tab) (env : Env) (t : TypeId) (parts : List (Nat × Operand)) : Option AV := match T.get t, partsF env parts with
  | some ⟨.struct fs, _, _, zs⟩, some ps => if fs.all (fun x => x.2.2 != 0) then (match fillA (fun i => (fs[i]?).map (·.2)) (zs.map Z.av) ps with
    | some r => (forceL r).map .agg
    | none => none) else none
  | _, _ => none
theorem PRun.buildW (hT : T.Ok P) {t : TypeId} {parts : Array (Nat × Operand)} {r : AV} (ho : o.op = .build t parts) (h : buildF T env t parts.toList = some r) (hn : rdns env (parts.toList.map (·.2))) : PRun P o env σ r := by
  unfold buildF at h
  split at h
  · rename_i fs s b zs ps hg hp
    split at h
    · rename_i hnz
      split at h
      · rename_i r' hf
        simp only [Option.map_eq_some_iff] at h
        obtain ⟨r2, h2, rfl⟩ := h
        rw [← forceL_eq h2]
        exact PRun.buildS ho (LOk.of (hT.get hg)) hnz hp hn hf
      · simp at h
    · simp at h
  · simp at h

/-- A slice that is written out. -/
def forceLL : List (List AV) → Option (List (List AV))
  | [] => some []
  | a :: l => match forceL a, forceLL l with
    | some a', some l' => some (a' :: l')
    | _, _ => none
theorem forceLL_eq : ∀ {l r : List (List AV)}, forceLL l = some r → l = r
  | [], r, h => by simp [forceLL] at h; exact h.symm
  | a :: l, r, h => by
    simp only [forceLL] at h
    split at h
    · rename_i g1 g2
      simp only [Option.some.injEq] at h; subst h
      rw [forceL_eq g1, forceLL_eq g2]
    · simp at h
def buildSlF (T : Tab) (env : Env) (t n : Nat) (parts : List (Nat × Operand)) : Option AV := match T.get t with
  | some ⟨.slice e, _, _, _⟩ => match T.get e, partsF env parts with
    | some le, some ps => if le.zero.length = le.size ∧ 0 < n * le.size ∧ n * le.size ≤ 16777216 then
        (match fillA (fun i => some (i * le.size, le.size)) ((List.range (n * le.size)).map fun i => (le.zero.map Z.av).getD (i % le.size) .any) (ps.map fun p => (p.1, p.2.map (unb 4))) with
        | some r => (forceLL (chunk le.size n r)).map fun es => .sl le.size es .fresh
        | none => none) else none
    | _, _ => none
  | _ => none
theorem PRun.buildSlW (hT : T.Ok P) {t n : Nat} {parts : Array (Nat × Operand)} {r : AV} (ho : o.op = .buildSlice t n parts) (h : buildSlF T env t n parts.toList = some r) (hn : rdns env (parts.toList.map (·.2))) : PRun P o env σ r := by
  unfold buildSlF at h
  split at h
  · rename_i e s b zs hg
    split at h
    · rename_i le ps hle hp
      split at h
      · rename_i hc
        split at h
        · rename_i r' hf
          simp only [Option.map_eq_some_iff] at h
          obtain ⟨r2, h2, rfl⟩ := h
          rw [← forceLL_eq h2]
          exact PRun.buildSl ho (LOk.of (hT.get hg)) (LOk.of (hT.get hle)) hc.1 hc.2.1 hc.2.2 hp hn hf
        · simp at h
      · simp at h
    · simp at h
  · simp at h
end
end Go.Ab
