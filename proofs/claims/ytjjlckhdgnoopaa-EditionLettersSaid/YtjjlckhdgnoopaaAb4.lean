/- Calls: contracts by content, the body of a function, operations that make or change the call's own objects. -/
import Derived.Test.YtjjlckhdgnoopaaAb3
namespace Go.Ab

/-- Without what only the call itself can see. -/
def unb : Nat → AV → AV
  | 0, _ => .any
  | k + 1, v => match v with
    | .prim v => .prim v
    | .agg cs => .agg (cs.map (unb k))
    | .tup cs => .tup (cs.map (unb k))
    | .nils => .nils
    | .sl sz es _ => .sl sz es .no
    | .iptr cs => .iptr cs
    | .fn f a c => .fn f (a.map (unb k)) (c.map (unb k))
    | .imap kvs => .imap kvs
    | .ext v => v
    | _ => .any

theorem unb_rel {M : Mem} {B : List GB} : ∀ (k : Nat) (v : AV) (x : Value), VRel M B v x → VRel M [] (unb k v) x
  | 0, _, _, _ => .any _
  | k + 1, v, x, h => by
    have l : ∀ (cs : List AV) (vs : Array Value), (∀ (i : Nat) (c : AV), cs[i]? = some c → VRel M B c (vs.getD i undef)) → ∀ (i : Nat) (c : AV), (cs.map (unb k))[i]? = some c → VRel M [] c (vs.getD i undef) := by
      intro cs vs h i c hi
      simp only [List.getElem?_map, Option.map_eq_some_iff] at hi
      obtain ⟨c', h1, rfl⟩ := hi
      exact unb_rel k _ _ (h i c' h1)
    cases h with
    | any => exact .any _
    | prim => exact .prim _
    | agg cs vs hl h => exact .agg _ _ (by simpa using hl) (l _ _ h)
    | tup cs vs hl h => exact .tup _ _ (by simpa using hl) (l _ _ h)
    | nils => exact .nils
    | sl sz es t b off cap f hz hm hr hc ht => exact .sl sz es .no b off cap f hz hm hr hc trivial
    | slz sz t ht => exact .slz sz .no trivial
    | ptr => exact .any _
    | iptr cs b off f hm hr => exact .iptr cs b off f hm hr
    | fn f first caps vf vc hf hc h1 h2 => exact .fn f _ _ vf vc (by simpa using hf) (by simpa using hc) (l _ _ h1) (l _ _ h2)
    | map => exact .any _
    | imap kvs b es hm hl hk hr => exact .imap kvs b es hm hl hk hr
    | imapz => exact .imapz
    | when => exact .any _
    | ext v x h => exact h

/-- The call's own objects, lent to a callee: read only. -/
def bor : Nat → Store → AV → AV
  | 0, _, _ => .any
  | k + 1, σ, v => match v with
    | .prim v => .prim v
    | .agg cs => .agg (cs.map (bor k σ))
    | .tup cs => .tup (cs.map (bor k σ))
    | .nils => .nils
    | .sl sz es _ => .sl sz es .no
    | .iptr cs => .iptr cs
    | .ptr l off => match σ[l]? with
      | some (.var cs) => .iptr ((cs.map (bor k σ)).drop off)
      | _ => .any
    | .map l => match σ[l]? with
      | some (.map kvs) => .imap (kvs.map fun kv => (kv.1, bor k σ kv.2))
      | _ => .any
    | .fn f a c => .fn f (a.map (bor k σ)) (c.map (bor k σ))
    | .imap kvs => .imap kvs
    | .ext v => v
    | _ => .any

/-- All of memory, as it is. -/
def memOf (w : World) : Mem where
  cell b o := w.cell? ⟨b, o, none⟩
  map b := match w.heap[b]? with | some (.map es _) => some es | _ => none

theorem memOf_ok (w : World) : MemOk (memOf w) w := ⟨fun _ _ _ h => h, fun b es h => by
  simp only [memOf] at h
  split at h
  · rename_i es' clock hb; simp at h; subst h; exact ⟨clock, hb⟩
  · simp at h⟩

theorem le_memOf {M : Mem} {w : World} (h : MemOk M w) : M.Le (memOf w) := ⟨h.1, fun b es hb => by
  obtain ⟨clock, hc⟩ := h.2 b es hb
  simp [memOf, hc]⟩

theorem bor_rel {G : Gh} {σ : Store} {w : World} (hs : SRel G σ w) : ∀ (k : Nat) (v : AV) (x : Value), VRel G.M G.B v x → VRel (memOf w) [] (bor k σ v) x
  | 0, _, _, _ => .any _
  | k + 1, v, x, h => by
    have hle := le_memOf hs.memok
    have l : ∀ (cs : List AV) (vs : Array Value), (∀ (i : Nat) (c : AV), cs[i]? = some c → VRel G.M G.B c (vs.getD i undef)) → ∀ (i : Nat) (c : AV), (cs.map (bor k σ))[i]? = some c → VRel (memOf w) [] c (vs.getD i undef) := by
      intro cs vs h i c hi
      simp only [List.getElem?_map, Option.map_eq_some_iff] at hi
      obtain ⟨c', h1, rfl⟩ := hi
      exact bor_rel hs k _ _ (h i c' h1)
    cases h with
    | any => exact .any _
    | prim => exact .prim _
    | agg cs vs hl h => exact .agg _ _ (by simpa using hl) (l _ _ h)
    | tup cs vs hl h => exact .tup _ _ (by simpa using hl) (l _ _ h)
    | nils => exact .nils
    | sl sz es t b off cap f hz hm hr hc ht => exact .sl sz es .no b off cap f hz (fun i j hi hj => hle.1 _ _ _ (hm i j hi hj)) (fun i j e c h1 h2 => (hr i j e c h1 h2).mono hle (BLe.refl _)) hc trivial
    | slz sz t ht => exact .slz sz .no trivial
    | ptr l' off b hb =>
      unfold bor
      simp only
      split
      · rename_i cs hσ
        have := hs.objs l' _ _ hb hσ
        cases this with
        | var _ _ c T fr hbb hf hlen hr hm =>
          refine .iptr _ b off (fun j => c.getD (off + j) undef) (fun j hj => ?_) fun j c' hj => ?_
          · simp at hj
            have hlt : off + j < c.size := by omega
            simp [memOf, World.cell?, hbb, hlt]
          · rw [List.getElem?_drop] at hj
            exact l cs c hr _ _ hj
      · exact .any _
    | iptr cs b off f hm hr => exact .iptr cs b off f (fun j hj => hle.1 _ _ _ (hm j hj)) fun j c hj => (hr j c hj).mono hle (BLe.refl _)
    | fn f first caps vf vc hf hc h1 h2 => exact .fn f _ _ vf vc (by simpa using hf) (by simpa using hc) (l _ _ h1) (l _ _ h2)
    | map l' b hb =>
      unfold bor
      simp only
      split
      · rename_i kvs hσ
        have := hs.objs l' _ _ hb hσ
        cases this with
        | map _ _ es clock hbb hlen hk hr hm =>
          refine .imap _ b es (by simp [memOf, hbb]) (by simpa using hlen) ?_ ?_
          · intro i k' v' e h1 h2
            simp only [List.getElem?_map, Option.map_eq_some_iff, Prod.mk.injEq] at h1
            obtain ⟨⟨k2, v2⟩, h3, rfl, rfl⟩ := h1
            exact hk i _ _ e h3 h2
          · intro i k' v' e h1 h2
            simp only [List.getElem?_map, Option.map_eq_some_iff, Prod.mk.injEq] at h1
            obtain ⟨⟨k2, v2⟩, h3, rfl, rfl⟩ := h1
            exact bor_rel hs k _ _ (hr i _ _ e h3 h2)
      · exact .any _
    | imap kvs b es hm hl hk hr => exact .imap kvs b es (hle.2 _ _ hm) hl hk fun i k v e h1 h2 => (hr i k v e h1 h2).mono hle (BLe.refl _)
    | imapz => exact .imapz
    | when => exact .any _
    | ext v x h => exact h.mono hle (BLe.refl _)

/-- What a call leaves behind. -/
structure Post (M : Mem) (w : World) (M' : Mem) (w' : World) : Prop where
  le : M.Le M'
  ok : MemOk M' w'
  size : w.heap.size ≤ w'.heap.size
  heap : ∀ b, b < w.heap.size → w'.heap[b]? = w.heap[b]?
  mem : ∀ b, b < w.heap.size → (∀ o, M'.cell b o = M.cell b o) ∧ M'.map b = M.map b
  out : w'.os = w.os ∧ w'.output = w.output

def ArgsRel (M : Mem) (avs : List AV) (vs : Array Value) : Prop := vs.size = avs.length ∧ ∀ (i : Nat) (c : AV), avs[i]? = some c → VRel M [] c (vs.getD i undef)

def FnOk (P : Program) (f : FuncId) : Prop := ∃ fn, P.funcs[f]? = some fn ∧ fn.body.isSome = true ∧ (fn.name == "runtime.NumGoroutine") = false

/-- A contract: called with values that read so, in whatever memory, it returns a value that reads so; nothing that was there has changed. -/
def PCall (P : Program) (f : FuncId) (avs : List AV) (r : AV) : Prop :=
  FnOk P f ∧ ∀ (M : Mem) (w : World) (vs : Array Value), MemOk M w → ArgsRel M avs vs → Calls P f vs w (fun e w' => ∃ v M', e = .returned v ∧ VRel M' [] r v ∧ Post M w M' w')

/-- The same of a function value. -/
def FnCall (P : Program) (fv : AV) (avs : List AV) (r : AV) : Prop := ∃ k first caps, fv = .fn (.func k) first caps ∧ PCall P k (first ++ avs ++ caps) r

theorem SRel.after {G : Gh} {σ : Store} {w w' : World} {M' : Mem} (h : SRel G σ w) (hp : Post G.M w M' w') : SRel { G with M := M' } σ w' := by
  refine ⟨hp.ok, fun b hb => ?_, ⟨Nat.le_trans h.base.1 hp.size, fun b hb => ?_⟩, h.len, fun l g o h1 h2 => ?_, fun l g b h1 h2 => ?_, h.inj, ⟨hp.out.1.trans h.out.1, hp.out.2.trans h.out.2⟩⟩
  · have hb' := Nat.lt_of_lt_of_le hb h.base.1
    exact ⟨fun o => ((hp.mem b hb').1 o).trans ((h.m0 b hb).1 o), ((hp.mem b hb').2).trans (h.m0 b hb).2⟩
  · exact (hp.heap b (Nat.lt_of_lt_of_le hb h.base.1)).trans (h.base.2 b hb)
  · have ho := h.objs l g o h1 h2
    have hfr := h.fresh l g
    cases ho with
    | var b cs c T fr hb hf hl hr hm =>
      have hlt := (hfr b h1 rfl).2
      exact .var b cs c T fr ((hp.heap b hlt).trans hb) hf hl (fun i a hi => (hr i a hi).mono hp.le (BLe.refl _)) fun o => ((hp.mem b hlt).1 o).trans (hm o)
    | ownz sz => exact .ownz sz
    | own b cap sz n c T fr hb hf hl hn hm =>
      have hlt := (hfr b h1 rfl).2
      exact .own b cap sz n c T fr ((hp.heap b hlt).trans hb) hf hl hn fun o ho => ((hp.mem b hlt).1 o).trans (hm o ho)
    | map b kvs es clock hb hl hk hr hm =>
      have hlt := (hfr b h1 rfl).2
      exact .map b kvs es clock ((hp.heap b hlt).trans hb) hl hk (fun i k v e a b => (hr i k v e a b).mono hp.le (BLe.refl _)) ((hp.mem b hlt).2.trans hm)
    | siter b s pos hb =>
      have hlt := (hfr b h1 rfl).2
      exact .siter b s pos ((hp.heap b hlt).trans hb)
    | dead => exact .dead _
  · have := h.fresh l g b h1 h2
    exact ⟨this.1, Nat.lt_of_lt_of_le this.2 hp.size⟩

theorem BLe.nil (B : List GB) : BLe [] B := fun l g h => by simp at h

/-- The same operand, stripped of its guard. -/
def AV.st : AV → AV
  | .when _ v => v
  | v => v
def AV.need : AV → Prop
  | .when g _ => g = true
  | _ => True
theorem Rd.st {env : Env} {x : Operand} {u : AV} (h : (envOp env x).st = u) (hn : (envOp env x).need) : Rd env x u := by
  intro M B y hy
  subst h
  generalize envOp env x = e at *
  cases e with
  | when g v => cases hy; rename_i h2 h; exact h hn
  | _ => exact hy
def Needs (env : Env) : List Operand → Prop
  | [] => True
  | x :: r => (envOp env x).need ∧ Needs env r
theorem Needs.rd {env : Env} : ∀ {l : List Operand}, Needs env l → ∀ x ∈ l, Rd env x (envOp env x).st
  | _ :: _, h, x, hx => by
    rcases List.mem_cons.1 hx with rfl | hx
    · exact Rd.st rfl h.1
    · exact Needs.rd h.2 x hx

section
variable {P : Program} {o : Oper} {env : Env} {σ : Store}

theorem run_callFunc {f : FuncId} (h : FnOk P f) (vs : Array Value) (w : World) : (callFunc f vs).run P w = .ok (.enter f vs) w := by
  obtain ⟨fn, h1, h2, h3⟩ := h
  unfold callFunc
  simp only [Sem.run_bind, run_program, Result.andThen_ok, h1, h3]
  have : fn.body.isNone = false := by cases hb : fn.body <;> simp_all
  simp [this]

/-- A call of a function, or of a function value, by its contract. -/
theorem PRun.callF {fo : Operand} {args : Array Operand} {T : Array TypeId} {k : Nat} {first caps : List AV} {avs : List AV} {r : AV}
    (ho : o.op = .call { callee := .value fo, args := args, argTypes := T }) (hf : Rd env fo (.fn (.func k) first caps)) (hn : Needs env args.toList)
    (h : PCall P k avs r) (ha : first.map (unb 4) ++ (args.toList.map fun x => unb 4 (envOp env x).st) ++ caps.map (unb 4) = avs) : PRun P o env σ r := by
  intro G a w hs hv
  have h1 := rd hf (by simp [ho, Op.operands, Call.operands]) hv
  generalize hA : a.eval fo = y at h1
  cases h1 with
  | fn _ _ _ vf vc hvf hvc h2 h3 =>
    have hrun : (execOp a.eval o).run P w = .ok (.enter k (vf ++ args.map a.eval ++ vc)) w := by
      simp only [execOp, ho, resolve, hA, Deferred.ofValue, Sem.run_bind, Sem.run_pure, Result.andThen_ok, invoke]
      exact run_callFunc h.1 _ w
    unfold Oper.wp
    rw [hrun]
    simp only [Oper.upon]
    have hargs : ArgsRel G.M avs (vf ++ args.map a.eval ++ vc) := by
      subst ha
      have hl := hvf
      have hl2 := hvc
      refine ⟨by simp [hl, hl2], fun i c hi => ?_⟩
      simp only [List.append_assoc] at hi
      rcases Nat.lt_or_ge i vf.size with hlt | hge
      · rw [List.getElem?_append_left (by simpa [← hl] using hlt)] at hi
        simp only [List.getElem?_map, Option.map_eq_some_iff] at hi
        obtain ⟨c', hc', rfl⟩ := hi
        have := h2 i c' hc'
        have e : (vf ++ args.map a.eval ++ vc).getD i undef = vf.getD i undef := by
          simp only [Array.getD_eq_getD_getElem?]
          rw [Array.append_assoc, Array.getElem?_append_left hlt]
        rw [e]; exact unb_rel 4 _ _ this
      · rw [List.getElem?_append_right (by simpa [← hl] using hge)] at hi
        simp only [List.length_map, ← hl] at hi
        rcases Nat.lt_or_ge (i - vf.size) args.size with hlt2 | hge2
        · rw [List.getElem?_append_left (by simpa using hlt2)] at hi
          simp only [List.getElem?_map, Option.map_eq_some_iff] at hi
          obtain ⟨x, hx, rfl⟩ := hi
          have hxm : x ∈ args.toList := List.mem_of_getElem? hx
          have := rd (hn.rd x hxm) (by simp [ho, Op.operands, Call.operands]; right; simpa using hxm) hv
          have e : (vf ++ args.map a.eval ++ vc).getD i undef = a.eval x := by
            simp only [Array.getD_eq_getD_getElem?]
            rw [Array.append_assoc, Array.getElem?_append_right hge, Array.getElem?_append_left (by simpa using hlt2)]
            simp only [Array.getElem?_toList] at hx
            simp [hx]
          rw [e]; exact unb_rel 4 _ _ this
        · rw [List.getElem?_append_right (by simpa using hge2)] at hi
          simp only [List.length_map, Array.length_toList, List.getElem?_map, Option.map_eq_some_iff] at hi
          obtain ⟨c', hc', rfl⟩ := hi
          have := h3 _ c' hc'
          have e : (vf ++ args.map a.eval ++ vc).getD i undef = vc.getD (i - vf.size - args.size) undef := by
            simp only [Array.getD_eq_getD_getElem?]
            rw [Array.append_assoc, Array.getElem?_append_right hge, Array.getElem?_append_right (by simpa using hge2)]
            simp
          rw [e]; exact unb_rel 4 _ _ this
    refine (h.2 G.M w _ hs.memok hargs).mono ?_
    rintro e w' ⟨v, M', rfl, hr, hp⟩
    exact ⟨v, { G with M := M' }, rfl, hr.mono (Mem.Le.refl _) (BLe.nil _), ⟨rfl, rfl, hp.le, BLe.refl _⟩, hs.after hp⟩

/-- A plain value: no memory behind it. -/
def flat : AV → Bool
  | .any => true
  | .prim _ => true
  | .tup cs => cs.all fun | .prim _ => true | .any => true | .agg cs => cs.all (fun | .prim _ => true | .any => true | _ => false) | _ => false
  | .agg cs => cs.all fun | .prim _ => true | .any => true | _ => false
  | _ => false

theorem flat_agg {M M' : Mem} {B B' : List GB} {cs : List AV} {x : Value} (hf : (cs.all fun | .prim _ => true | .any => true | _ => false) = true) (h : VRel M B (.agg cs) x) : VRel M' B' (.agg cs) x := by
  cases h with
  | agg _ vs hl h =>
    refine .agg cs vs hl fun i c hi => ?_
    have h1 := List.all_eq_true.1 hf c (List.mem_of_getElem? hi)
    have h2 := h i c hi
    cases c <;> simp at h1
    · exact .any _
    · rw [VRel.prim_eq h2]; exact .prim _

theorem flat_rel {M M' : Mem} {B B' : List GB} {r : AV} {x : Value} (hf : flat r = true) (h : VRel M B r x) : VRel M' B' r x := by
  cases r with
  | any => exact .any _
  | prim v => rw [VRel.prim_eq h]; exact .prim _
  | agg cs => exact flat_agg hf h
  | tup cs =>
    cases h with
    | tup _ vs hl h =>
      refine .tup cs vs hl fun i c hi => ?_
      have h1 := List.all_eq_true.1 hf c (List.mem_of_getElem? hi)
      have h2 := h i c hi
      cases c <;> simp only [Bool.false_eq_true] at h1
      · exact .any _
      · rw [VRel.prim_eq h2]; exact .prim _
      · exact flat_agg h1 h2
  | _ => simp [flat] at hf

/-- A call that is lent the call's own objects, to read them; its result is plain. -/
theorem PRun.callB {fo : Operand} {args : Array Operand} {T : Array TypeId} {k : Nat} {first caps : List AV} {avs : List AV} {r : AV}
    (ho : o.op = .call { callee := .value fo, args := args, argTypes := T }) (hf : Rd env fo (.fn (.func k) first caps)) (hn : Needs env args.toList)
    (h : PCall P k avs r) (ha : first.map (bor 4 σ) ++ (args.toList.map fun x => bor 4 σ (envOp env x).st) ++ caps.map (bor 4 σ) = avs) (hr : flat r = true) : PRun P o env σ r := by
  intro G a w hs hv
  have h1 := rd hf (by simp [ho, Op.operands, Call.operands]) hv
  generalize hA : a.eval fo = y at h1
  cases h1 with
  | fn _ _ _ vf vc hvf hvc h2 h3 =>
    have hrun : (execOp a.eval o).run P w = .ok (.enter k (vf ++ args.map a.eval ++ vc)) w := by
      simp only [execOp, ho, resolve, hA, Deferred.ofValue, Sem.run_bind, Sem.run_pure, Result.andThen_ok, invoke]
      exact run_callFunc h.1 _ w
    unfold Oper.wp
    rw [hrun]
    simp only [Oper.upon]
    have hargs : ArgsRel (memOf w) avs (vf ++ args.map a.eval ++ vc) := by
      subst ha
      have hl := hvf
      have hl2 := hvc
      refine ⟨by simp [hl, hl2], fun i c hi => ?_⟩
      simp only [List.append_assoc] at hi
      rcases Nat.lt_or_ge i vf.size with hlt | hge
      · rw [List.getElem?_append_left (by simpa [← hl] using hlt)] at hi
        simp only [List.getElem?_map, Option.map_eq_some_iff] at hi
        obtain ⟨c', hc', rfl⟩ := hi
        have := h2 i c' hc'
        have e : (vf ++ args.map a.eval ++ vc).getD i undef = vf.getD i undef := by
          simp only [Array.getD_eq_getD_getElem?]
          rw [Array.append_assoc, Array.getElem?_append_left hlt]
        rw [e]; exact bor_rel hs 4 _ _ this
      · rw [List.getElem?_append_right (by simpa [← hl] using hge)] at hi
        simp only [List.length_map, ← hl] at hi
        rcases Nat.lt_or_ge (i - vf.size) args.size with hlt2 | hge2
        · rw [List.getElem?_append_left (by simpa using hlt2)] at hi
          simp only [List.getElem?_map, Option.map_eq_some_iff] at hi
          obtain ⟨x, hx, rfl⟩ := hi
          have hxm : x ∈ args.toList := List.mem_of_getElem? hx
          have := rd (hn.rd x hxm) (by simp [ho, Op.operands, Call.operands]; right; simpa using hxm) hv
          have e : (vf ++ args.map a.eval ++ vc).getD i undef = a.eval x := by
            simp only [Array.getD_eq_getD_getElem?]
            rw [Array.append_assoc, Array.getElem?_append_right hge, Array.getElem?_append_left (by simpa using hlt2)]
            simp only [Array.getElem?_toList] at hx
            simp [hx]
          rw [e]; exact bor_rel hs 4 _ _ this
        · rw [List.getElem?_append_right (by simpa using hge2)] at hi
          simp only [List.length_map, Array.length_toList, List.getElem?_map, Option.map_eq_some_iff] at hi
          obtain ⟨c', hc', rfl⟩ := hi
          have := h3 _ c' hc'
          have e : (vf ++ args.map a.eval ++ vc).getD i undef = vc.getD (i - vf.size - args.size) undef := by
            simp only [Array.getD_eq_getD_getElem?]
            rw [Array.append_assoc, Array.getElem?_append_right hge, Array.getElem?_append_right (by simpa using hge2)]
            simp
          rw [e]; exact bor_rel hs 4 _ _ this
    refine (h.2 (memOf w) w _ (memOf_ok w) hargs).mono ?_
    rintro e w' ⟨v, M', rfl, hr', hp⟩
    refine ⟨v, G, rfl, flat_rel hr hr', Gh.Le.refl G, ?_⟩
    have hp' : Post G.M w G.M w' := ⟨Mem.Le.refl _, ⟨fun b o v hb => by
        have h1 := hs.memok.1 b o v hb
        have hlt := World.block_lt_of_cell? _ _ h1
        simp only [World.cell?] at h1 ⊢
        rw [hp.heap b hlt]; exact h1, fun b es hb => by
        obtain ⟨clock, h1⟩ := hs.memok.2 b es hb
        have hlt : b < w.heap.size := by
          rcases Nat.lt_or_ge b w.heap.size with h | h
          · exact h
          · simp [Array.getElem?_eq_none h] at h1
        exact ⟨clock, by rw [hp.heap b hlt]; exact h1⟩⟩, hp.size, hp.heap, fun _ _ => ⟨fun _ => rfl, rfl⟩, hp.out⟩
    exact hs.after hp'

end

/-! ### The body of a function -/
def Env.init (avs : List AV) : Env := fun i => avs.getD i .any

/-- What a function hands back, from its slots. -/
def retOf (rs : List ResultVar) (e : Env) : AV :=
  match rs with
  | [.tmp t] => unb 4 (e t)
  | l => .tup (l.map fun | .tmp t => unb 4 (e t) | .cell _ _ => .any)

/-- One value tells no more than another. -/
def Ent (u v : AV) : Prop := ∀ M x, VRel M [] u x → VRel M [] v x
theorem Ent.rfl' (u : AV) : Ent u u := fun _ _ h => h

def retK (rs : List ResultVar) (r : AV) : Exit → Env → Store → Prop := fun x e _ => (x = .normal ∨ x = .ret) ∧ Ent (retOf rs e) r

def allTmp : List ResultVar → Bool := fun l => l.all fun | .tmp _ => true | _ => false

def rvOf (tmps : Array Value) : ResultVar → Value
  | .tmp t => tmps.getD t undef
  | .cell _ _ => undef
def resVal (tmps : Array Value) (l : List ResultVar) : Value :=
  match l with
  | [.tmp t] => tmps.getD t undef
  | l => .tuple (l.map (rvOf tmps)).toArray

theorem run_results {P : Program} {fn : Func} (h : allTmp fn.results.toList = true) (tmps : Array Value) (w : World) :
    (results fn tmps).run P w = .ok (resVal tmps fn.results.toList) w := by
  unfold results
  obtain ⟨l, hl⟩ : ∃ l, fn.results = List.toArray l := ⟨fn.results.toList, by simp⟩
  rw [hl] at h ⊢
  simp only at h ⊢
  have key : ∀ (f : ResultVar → Sem Value), (∀ t, f (.tmp t) = pure (tmps.getD t undef)) → ∀ l : List ResultVar, allTmp l = true → Sem.run P (l.mapM f) w = Result.ok (l.map (rvOf tmps)) w := by
    intro f hf
    intro l
    induction l with
    | nil => intro _; rfl
    | cons x l ih =>
      intro h
      simp only [allTmp, List.all_cons, Bool.and_eq_true] at h
      cases x with
      | cell => simp at h
      | tmp t =>
        simp only [List.mapM_cons, hf, Sem.run_bind, Sem.run_pure, Result.andThen_ok]
        rw [ih h.2]
        rfl
  simp only [List.mapM_toArray, Sem.run_bind, Sem.run_map]
  rw [key _ (fun _ => rfl) l h]
  simp only [Result.andThen_ok, Sem.run_pure]
  congr 1
  match l, h with
  | [], _ => rfl
  | [.tmp t], _ => rfl
  | [.cell _ _], h => simp [allTmp] at h
  | x :: y :: r, _ =>
    have : ¬ ((x :: y :: r).map (rvOf tmps)).toArray.size = 1 := by simp
    rw [dif_neg this]; cases x <;> rfl

theorem PCall.body {P : Program} {f : FuncId} {fn : Func} {c : Code} {n : Nat} {avs : List AV} {r : AV} (hf : P.funcs[f]? = some fn) (hb : fn.body = some c) (hnm : (fn.name == "runtime.NumGoroutine") = false)
    (hn : fn.ntmps = n) (hle' : decide (avs.length ≤ n) = true) (hres : allTmp fn.results.toList = true) (h : AWP P n c (retK fn.results.toList r) (Env.init avs) []) : PCall P f avs r := by
  have hle : avs.length ≤ n := of_decide_eq_true hle'
  refine ⟨⟨fn, hf, by simp [hb], hnm⟩, fun M w vs hm ha => ?_⟩
  refine calls_of_wp hf hb ?_
  have hr : ARel n ⟨M, w, M, []⟩ (Env.init avs) [] { tmps := vs ++ Array.replicate (fn.ntmps - vs.size) undef, defers := [] } w := by
    refine ⟨by simp [hn, ha.1]; omega, rfl, fun i => ?_, ⟨hm, fun _ _ => ⟨fun _ => rfl, rfl⟩, ⟨Nat.le_refl _, fun _ _ => rfl⟩, rfl, fun l g o h => by simp at h, fun l g b h => by simp at h, fun l l' g g' b h => by simp at h, ⟨rfl, rfl⟩⟩⟩
    simp only [Env.init]
    cases hi : avs[i]? with
    | none => simp [List.getD, hi]; exact .any _
    | some c' =>
      have h1 := ha.2 i c' hi
      have hlt : i < vs.size := by
        rw [ha.1]
        rcases Nat.lt_or_ge i avs.length with h | h
        · exact h
        · simp [List.getElem?_eq_none h] at hi
      have e : (vs ++ Array.replicate (fn.ntmps - vs.size) undef).getD i undef = vs.getD i undef := by
        simp only [Array.getD_eq_getD_getElem?]
        rw [Array.getElem?_append_left hlt]
      rw [e]
      simpa [List.getD, hi] using h1
  refine wp_mono (h _ _ _ hr) ?_
  rintro x a' w' ⟨e, s, G', ⟨hx, hent⟩, hg, hr'⟩
  have hpost : Post M w G'.M w' := by
    obtain ⟨g1, g2, g3, g4⟩ := hg
    simp only at g1 g2 g3
    refine ⟨g3, hr'.st.memok, ?_, fun b hb => ?_, fun b hb => ?_, by have := hr'.st.out; rwa [g2] at this⟩
    · have := hr'.st.base.1; rwa [g2] at this
    · have := hr'.st.base.2; rw [g2] at this; exact this b hb
    · have := hr'.st.m0; rw [g1, g2] at this; exact this b hb
  have hval : ∃ v, (results fn a'.tmps).run P w' = .ok v w' ∧ VRel G'.M [] r v := by
    refine ⟨_, run_results hres _ _, hent _ _ ?_⟩
    generalize fn.results.toList = l at hres
    have many : VRel G'.M [] (.tup (l.map fun | .tmp t => unb 4 (e t) | .cell _ _ => .any)) (.tuple (l.map (rvOf a'.tmps)).toArray) := by
      refine .tup _ _ (by simp) fun i c hi => ?_
      simp only [List.getElem?_map, Option.map_eq_some_iff] at hi
      obtain ⟨rv, h1, rfl⟩ := hi
      simp only [Array.getD_eq_getD_getElem?, List.getElem?_toArray, List.getElem?_map, h1, Option.map_some, Option.getD_some]
      cases rv with
      | tmp t =>
        have := unb_rel 4 _ _ (hr'.vals t)
        simpa [rvOf, Array.getD_eq_getD_getElem?] using this
      | cell => exact .any _
    match l, many with
    | [], many => exact many
    | [.tmp t], _ => exact unb_rel 4 _ _ (hr'.vals t)
    | [.cell _ _], many => exact many
    | .tmp _ :: _ :: _, many => exact many
    | .cell _ _ :: _ :: _, many => exact many
  obtain ⟨v, h1, h2⟩ := hval
  rcases hx with rfl | rfl
  · exact ⟨hr'.defers, v, h1, v, G'.M, rfl, h2, hpost⟩
  · exact ⟨hr'.defers, v, h1, v, G'.M, rfl, h2, hpost⟩
end Go.Ab
