/- Maps, ranges over strings, cuts of slices and strings. -/
import Derived.Test.YtjjlckhdgnoopaaAb7
import Derived.MapKept
namespace Go.Ab

/-! ### Maps -/
def encM {κ α : Type} (ek : κ → Value) (ev : α → AV) (l : List (κ × α)) : List (Value × AV) := l.map fun p => (ek p.1, ev p.2)
theorem encM_length {κ α : Type} (ek : κ → Value) (ev : α → AV) (l : List (κ × α)) : (encM ek ev l).length = l.length := by simp [encM]
theorem encM_get {κ α : Type} {ek : κ → Value} {ev : α → AV} {l : List (κ × α)} {i : Nat} {k : Value} {v : AV} (h : (encM ek ev l)[i]? = some (k, v)) : ∃ p, l[i]? = some p ∧ k = ek p.1 ∧ v = ev p.2 := by
  simp only [encM, List.getElem?_map, Option.map_eq_some_iff, Prod.mk.injEq] at h
  obtain ⟨p, h1, h2, h3⟩ := h
  exact ⟨p, h1, h2.symm, h3.symm⟩

/-- The value under a key. -/
def lk {κ α : Type} [DecidableEq κ] : List (κ × α) → κ → Option α
  | [], _ => none
  | (k', v) :: r, k => if k' = k then some v else lk r k
/-- The entry under a key is set. -/
def ins {κ α : Type} [DecidableEq κ] : List (κ × α) → κ → α → List (κ × α)
  | [], k, v => [(k, v)]
  | (k', v') :: r, k, v => if k' = k then (k, v) :: r else (k', v') :: ins r k v

structure KeyLaw (P : Program) (kt : TypeId) {κ : Type} [DecidableEq κ] (ek : κ → Value) : Prop where
  check : ∀ (w : World) (em : Bool) (k : κ), (Instr.checkKey em 10000 kt (ek k)).run P w = .ok () w
  find : ∀ (w : World) (k : κ) (es : List MapEntry) (ks : List κ), es.map (·.key) = ks.map ek →
    (Instr.findKey kt (ek k) es).run P w = .ok ((ks.findIdx? (fun x => decide (x = k))).bind fun i => (es[i]?).map fun e => (i, e.val)) w
  stays : ∀ (w : World) (k : κ), (Instr.keyThatStays (ek k) (ek k)).run P w = .ok (ek k) w

theorem findNow_find {κ : Type} [DecidableEq κ] {ek : κ → Value} {d : TypeDesc} (hs : ∀ a b, Instr.sameNow d (ek a) (ek b) = some (decide (b = a))) (k : κ) : ∀ (es : List MapEntry) (ks : List κ) (j : Nat), es.map (·.key) = ks.map ek →
    Instr.findNow d (ek k) es j = some ((ks.findIdx? (fun x => decide (x = k))).bind fun i => (es[i]?).map fun e => (j + i, e.val))
  | [], [], j, _ => rfl
  | [], _ :: _, j, h => by simp at h
  | _ :: _, [], j, h => by simp at h
  | e :: es, x :: ks, j, h => by
    simp only [List.map_cons, List.cons.injEq] at h
    obtain ⟨h1, h2⟩ := h
    simp only [Instr.findNow, h1, hs, List.findIdx?_cons]
    by_cases hx : x = k
    · simp [hx]
    · simp only [hx, decide_false, Bool.false_eq_true, if_false]
      rw [findNow_find hs k es ks (j + 1) h2]
      cases ks.findIdx? (fun x => decide (x = k)) with
      | none => rfl
      | some i => simp [Nat.add_assoc, Nat.add_comm 1 i]

theorem sameNow_int {k : IntKind} (a b : Int) : Instr.sameNow (.int k) (.int .i64 a) (.int .i64 b) = some (decide (b = a)) := by
  simp only [Instr.sameNow, if_true]
  congr 1
  by_cases h : a = b
  · subst h; simp
  · have h' : ¬ b = a := fun e => h e.symm
    simp [h, h']
theorem keyLaw_int {P : Program} {kt : TypeId} {sz by' : Nat} {z : List Z} (hl : LOk P kt ⟨.int .i64, sz, by', z⟩) : KeyLaw P kt (fun n : Int => Value.int .i64 n) where
  check w em k := by
    show (Instr.checkKey em (9999 + 1) kt (.int .i64 k)).run P w = _
    rw [Instr.checkKey, Sem.run_bind, hl.intT w]
    rfl
  find w k es ks h := by
    unfold Instr.findKey
    rw [Sem.run_bind, hl.intT w]
    simp only [Result.andThen_ok]
    rw [findNow_find (ek := fun n : Int => Value.int .i64 n) sameNow_int k es ks 0 h]
    simp
  stays w k := by
    unfold Instr.keyThatStays
    have : Instr.sameBits 10000 (.int .i64 k) (.int .i64 k) = true := by simp [Instr.sameBits]
    rw [if_pos this]; rfl

theorem bytesBeq (a b : ByteArray) : (a == b) = true ↔ a = b := by
  obtain ⟨x⟩ := a
  obtain ⟨y⟩ := b
  constructor
  · intro h
    have e : x = y := by simpa using (show (x == y) = true from h)
    rw [e]
  · intro h
    cases h
    show (x == x) = true
    simp
theorem keyLaw_str {P : Program} {kt : TypeId} {sz by' : Nat} {z : List Z} (hl : LOk P kt ⟨.str, sz, by', z⟩) : KeyLaw P kt (fun s : ByteArray => Value.string s) where
  check w em k := by
    show (Instr.checkKey em (9999 + 1) kt (.string k)).run P w = _
    rw [Instr.checkKey, Sem.run_bind, hl.strT w]
    rfl
  find w k es ks h := by
    unfold Instr.findKey
    rw [Sem.run_bind, hl.strT w]
    simp only [Result.andThen_ok]
    rw [findNow_find (ek := fun s : ByteArray => Value.string s) (fun a b => by
      simp only [Instr.sameNow]; congr 1; rw [Bool.eq_iff_iff, bytesBeq]; simp only [decide_eq_true_eq]; exact ⟨Eq.symm, Eq.symm⟩) k es ks 0 h]
    simp
  stays w k := by
    unfold Instr.keyThatStays
    have : Instr.sameBits 10000 (.string k) (.string k) = true := by simp only [Instr.sameBits]; exact (bytesBeq k k).2 rfl
    rw [if_pos this]; rfl

theorem idx_lk {κ α : Type} [DecidableEq κ] (k : κ) : ∀ (l : List (κ × α)), ((l.map (·.1)).findIdx? (fun x => decide (x = k))).bind (fun i => l[i]?) = (l.find? (fun p => decide (p.1 = k)))
  | [] => rfl
  | p :: r => by
    simp only [List.map_cons, List.findIdx?_cons, List.find?_cons]
    by_cases h : p.1 = k
    · simp [h]
    · simp only [h, decide_false, Bool.false_eq_true, if_false]
      rw [← idx_lk k r]
      cases (r.map (·.1)).findIdx? (fun x => decide (x = k)) with
      | none => rfl
      | some i => simp
theorem lk_find {κ α : Type} [DecidableEq κ] (k : κ) : ∀ (l : List (κ × α)), lk l k = (l.find? (fun p => decide (p.1 = k))).map (·.2)
  | [] => rfl
  | (k', v) :: r => by
    simp only [lk, List.find?_cons]
    by_cases h : k' = k
    · simp [h]
    · simp [h, lk_find k r]

/-- The exact value, where the abstract one leaves nothing open. -/
def exactV : AV → Option Value
  | .prim v => some v
  | .agg cs => match exactL cs with
    | some vs => some (.agg vs.toArray)
    | none => none
  | _ => none
where exactL : List AV → Option (List Value)
  | [] => some []
  | .prim v :: r => match exactL r with
    | some vs => some (v :: vs)
    | none => none
  | _ :: _ => none
theorem exactL_spec {M : Mem} {B : List GB} : ∀ {cs : List AV} {vs : List Value}, exactV.exactL cs = some vs → ∀ {xs : List Value}, xs.length = cs.length → (∀ (i : Nat) (c : AV), cs[i]? = some c → VRel M B c (xs.getD i undef)) → xs = vs
  | [], vs, h, xs, hl, _ => by
    simp [exactV.exactL] at h; subst h
    exact List.length_eq_zero_iff.1 hl
  | c :: r, vs, h, xs, hl, hr => by
    cases xs with
    | nil => simp at hl
    | cons x xs =>
      cases c <;> simp only [exactV.exactL, reduceCtorEq] at h
      rename_i v
      split at h
      · rename_i vs' h'
        simp at h; subst h
        have h0 := VRel.prim_eq (hr 0 _ rfl)
        simp at h0
        have e := exactL_spec (M := M) (B := B) h' (xs := xs) (by simpa using hl) (fun i c hi => by simpa using hr (i + 1) c (by simpa using hi))
        rw [h0, e]
      · simp at h
theorem exactV_spec {M : Mem} {B : List GB} {u : AV} {v x : Value} (h : exactV u = some v) (hx : VRel M B u x) : x = v := by
  cases u <;> simp only [exactV, reduceCtorEq] at h
  · simp at h; subst h; exact VRel.prim_eq hx
  · split at h
    · rename_i vs hvs
      simp at h; subst h
      cases hx with
      | agg cs vs' hl hr =>
        have e := exactL_spec (M := M) (B := B) hvs (xs := vs'.toList) (by simpa using hl) (fun i c hi => by simpa [Array.getD_eq_getD_getElem?, List.getD] using hr i c hi)
        subst e; rfl
    · simp at h

section
variable {P : Program} {n : Nat} {ops : Array Oper} {o : Oper} {env : Env} {σ : Store} {k : Env → Store → Prop} {T : Tab}

/-- An object of another kind, new. -/
theorem EStep.newObj {d : Nat} {g : Nat → GB} {ao : AObj} {ob : Obj} {v : Nat → Value} {u : AV} (hg : o.guard = none) (hd : o.dst = some d) (hdn : d < n)
    (hrun : ∀ (G : Gh) (a : Act) (w : World), ARel n G env σ a w → (execOp a.eval o).run P w = .ok (.value (v w.heap.size)) (w.alloc ob))
    (hblk : ∀ b, (g b).block = some b) (hrel : ∀ (M : Mem) (B : List GB) (w : World), w.heap[w.heap.size - 1]? = some ob → M.map (w.heap.size - 1) = none → (∀ o, M.cell (w.heap.size - 1) o = none) → 0 < w.heap.size → ORel M B w (g (w.heap.size - 1)) ao)
    (hu : ∀ (M : Mem) (B : List GB) (b : Nat), B[σ.length]? = some (g b) → VRel M B u (v b))
    (hk : k (env.put d u) (σ ++ [ao])) : EStep P n ops o k env σ := by
  refine EStep.plain hg fun G a w hr => ?_
  unfold Oper.wp
  rw [hrun G a w hr]
  have hm := mem_lt hr.st.memok _ (Nat.le_refl _)
  have hs : SRel { G with B := G.B ++ [g w.heap.size] } (σ ++ [ao]) (w.alloc ob) := by
    refine hr.st.alloc (hblk _) ?_
    have := hrel G.M (G.B ++ [g w.heap.size]) (w.alloc ob)
    simp only [World.size_alloc, Nat.add_sub_cancel] at this
    exact this (by rw [heap_alloc, if_pos rfl]) hm.2 hm.1 (by omega)
  refine ⟨_, _, { G with B := G.B ++ [g w.heap.size] }, hk, ⟨rfl, rfl, Mem.Le.refl _, BLe.append _ _⟩, ?_⟩
  rw [hd]
  have hr' : ARel n { G with B := G.B ++ [g w.heap.size] } env (σ ++ [ao]) a (w.alloc ob) := ⟨hr.size, hr.defers, fun i => (hr.vals i).mono (Mem.Le.refl _) (BLe.append _ _), hs⟩
  exact hr'.put hdn (hu _ _ _ (by simp [← hr.st.len]))

theorem EStep.makeMapW {t : TypeId} {d : Nat} (ho : o.op = .makeMap t none) (hg : o.guard = none) (hd : o.dst = some d) (hdn : decide (d < n) = true) (hk : k (env.put d (.map σ.length)) (σ ++ [.map []])) : EStep P n ops o k env σ :=
  EStep.newObj (g := .blk) (ob := .map #[] 0) (v := fun b => .map (some b)) hg hd (of_decide_eq_true hdn) (fun G a w hr => by simp [execOp, ho, Instr.makeMap]) (fun _ => rfl)
    (fun M B w hb hm hc _ => .map _ [] #[] 0 hb rfl (by simp) (by simp) hm) (fun M B b hb => .map _ b hb) hk
theorem EStep.makeMapRW (hT : T.Ok P) {t : TypeId} {x : Operand} {d : Nat} {kd : IntKind} {i : Int} {kt et : TypeId} {s1 b1 : Nat} {z : List Z} (ho : o.op = .makeMap t (some x)) (hg : o.guard = none) (hd : o.dst = some d) (hdn : decide (d < n) = true) (hx : rdv env x = some (.prim (.int kd i))) (nx : rdn env x)
    (hl : T.get t = some ⟨.map kt et, s1, b1, z⟩) (hk : k (env.put d (.map σ.length)) (σ ++ [.map []])) : EStep P n ops o k env σ :=
  EStep.newObj (g := .blk) (ob := .map #[] 0) (v := fun b => .map (some b)) hg hd (of_decide_eq_true hdn) (fun G a w hr => by
      have h1 := VRel.prim_eq (hr.rd (Rd.w hx nx))
      simp [execOp, ho, Instr.makeMap, (LOk.of (hT.get hl)).mapT w, h1, asInt, asIntOf]) (fun _ => rfl)
    (fun M B w hb hm hc _ => .map _ [] #[] 0 hb rfl (by simp) (by simp) hm) (fun M B b hb => .map _ b hb) hk

theorem EStep.rangeSW (hT : T.Ok P) {t : TypeId} {x : Operand} {d : Nat} {s : ByteArray} {s1 b1 : Nat} {z : List Z} (ho : o.op = .range t x) (hg : o.guard = none) (hd : o.dst = some d) (hdn : decide (d < n) = true) (hx : rdv env x = some (.str s)) (nx : rdn env x)
    (hl : T.get t = some ⟨.str, s1, b1, z⟩) (hk : k (env.put d (.ptr σ.length 0)) (σ ++ [.siter s 0])) : EStep P n ops o k env σ :=
  EStep.newObj (g := .blk) (ob := .stringIter s 0) (v := fun b => .pointer (some ⟨b, 0, none⟩)) hg hd (of_decide_eq_true hdn) (fun G a w hr => by
      have h1 := VRel.prim_eq (hr.rd (Rd.w hx nx))
      simp [execOp, ho, Instr.range, (LOk.of (hT.get hl)).strT w, h1]) (fun _ => rfl)
    (fun M B w hb _ _ _ => .siter _ s 0 hb) (fun M B b hb => .ptr _ 0 b hb) hk

theorem heap_set (w : World) (b : Nat) (ob : Obj) (hb : b < w.heap.size) (k : Nat) : ({ w with heap := w.heap.setIfInBounds b ob } : World).heap[k]? = if k = b then some ob else w.heap[k]? := by
  show (w.heap.setIfInBounds b ob)[k]? = _
  rw [Array.getElem?_setIfInBounds]
  by_cases h : k = b
  · subst h; simp [hb]
  · simp [h, Ne.symm h]

theorem mem_of_notcell {M : Mem} {w : World} (h : MemOk M w) {b : Nat} {ob : Obj} (hb : w.heap[b]? = some ob) (h1 : ∀ c T f, ob ≠ .cells c T f) : ∀ o, M.cell b o = none := by
  intro o
  cases hc : M.cell b o with
  | none => rfl
  | some v =>
    have := h.1 _ _ _ hc
    simp only [World.cell?, hb] at this
    cases ob <;> simp at this
    exact absurd rfl (h1 _ _ _)
theorem mem_of_notmap {M : Mem} {w : World} (h : MemOk M w) {b : Nat} {ob : Obj} (hb : w.heap[b]? = some ob) (h1 : ∀ es c, ob ≠ .map es c) : M.map b = none := by
  cases hc : M.map b with
  | none => rfl
  | some es =>
    obtain ⟨c, h2⟩ := h.2 _ _ hc
    rw [hb] at h2; simp at h2; exact absurd h2 (h1 _ _)

/-- The next rune of a string. -/
theorem EStep.nextS {it : Operand} {d l pos : Nat} {s : ByteArray} (ho : o.op = .next it true) (hg : o.guard = none) (hd : o.dst = some d) (hdn : decide (d < n) = true) (hx : rdv env it = some (.ptr l 0)) (nx : rdn env it)
    (hσ : σ[l]? = some (.siter s pos)) (hp : pos < s.size) (hk : k (env.put d (.tup [.b true, .int pos, .prim (.int .i32 (Utf8.decode s pos).1)])) (σ.set l (.siter s (pos + (Utf8.decode s pos).2)))) : EStep P n ops o k env σ := by
  refine EStep.plain hg fun G a w hr => ?_
  have h1 := hr.rd (Rd.w hx nx)
  generalize hA : a.eval it = y at h1
  cases h1 with
  | ptr _ _ b hb =>
    have hobj := hr.st.objs l _ _ hb hσ
    cases hobj with
    | siter _ _ _ hbb =>
      have hlt := (hr.st.fresh l _ b hb rfl).2
      have hrun : (execOp a.eval o).run P w = .ok (.value (.tuple #[.bool true, goInt pos, .int .i32 (Utf8.decode s pos).1])) { w with heap := w.heap.setIfInBounds b (.stringIter s (pos + (Utf8.decode s pos).2)) } := by
        simp only [execOp, ho, hA, Instr.next]
        simp [getObj, setObj, Sem.run, hbb, hp]
      unfold Oper.wp
      rw [hrun]
      have hs := hr.st.upd (o' := .siter s (pos + (Utf8.decode s pos).2)) (w' := { w with heap := w.heap.setIfInBounds b (.stringIter s (pos + (Utf8.decode s pos).2)) }) hb rfl (by simp) (fun k hk => by rw [heap_set w b _ hlt, if_neg hk]) (.siter b s _ (by rw [heap_set w b _ hlt, if_pos rfl]))
        ⟨mem_of_notcell hr.st.memok hbb (by intros; simp), mem_of_notmap hr.st.memok hbb (by intros; simp)⟩ ⟨rfl, rfl⟩
      refine ⟨_, _, G, hk, Gh.Le.refl G, ?_⟩
      rw [hd]
      have hr' : ARel n G env (σ.set l (.siter s (pos + (Utf8.decode s pos).2))) a { w with heap := w.heap.setIfInBounds b (.stringIter s (pos + (Utf8.decode s pos).2)) } := ⟨hr.size, hr.defers, hr.vals, hs⟩
      refine hr'.put (of_decide_eq_true hdn) (.tup _ _ rfl fun i c hi => ?_)
      match i, hi with
      | 0, hi => simp at hi; subst hi; exact .prim _
      | 1, hi => simp at hi; subst hi; exact .prim _
      | 2, hi => simp at hi; subst hi; exact .prim _
      | i + 3, hi => simp at hi
theorem PRun.nextEnd {it : Operand} {l pos : Nat} {s : ByteArray} (ho : o.op = .next it true) (hx : rdv env it = some (.ptr l 0)) (nx : rdn env it) (hσ : σ[l]? = some (.siter s pos)) (hp : ¬ pos < s.size) : PRun P o env σ (.tup [.b false]) :=
  .of fun G a w hs hv => by
    have h1 := rd (Rd.w hx nx) (by simp [ho, Op.operands]) hv
    generalize hA : a.eval it = y at h1
    cases h1 with
    | ptr _ _ b hb =>
      have hobj := hs.objs l _ _ hb hσ
      cases hobj with
      | siter _ _ _ hbb =>
        refine ⟨.tuple #[.bool false], ?_, .tup _ _ rfl fun i c hi => ?_⟩
        · simp only [execOp, ho, hA, Instr.next]
          simp [getObj, Sem.run, hbb, hp]
        · match i, hi with
          | 0, hi => simp at hi; subst hi; exact .prim _
          | i + 1, hi => simp at hi

/-! ### A local map: set an entry -/
theorem EStep.mapUpd {κ α : Type} [DecidableEq κ] {ek : κ → Value} {ev : α → AV} {t kt et : TypeId} {m x y : Operand} {l : Nat} {al : List (κ × α)} {key : κ} {v : α} {uk : AV} {s1 b1 : Nat} {z : List Z}
    (K : KeyLaw P kt ek) (hl : LOk P t ⟨.map kt et, s1, b1, z⟩) (ho : o.op = .mapUpdate t m x y) (hg : o.guard = none) (hdn : dstOk n o = true) (hm : Rd env m (.map l)) (hσ : σ[l]? = some (.map (encM ek ev al)))
    (hx : Rd env x uk) (hex : exactV uk = some (ek key)) (hy : Rd env y (ev v)) (hk : k (env.putO o.dst .any) (σ.set l (.map (encM ek ev (ins al key v))))) : EStep P n ops o k env σ := by
  refine EStep.plain hg fun G a w hr => ?_
  have h1 := hr.rd hm
  have h2 := exactV_spec hex (hr.rd hx)
  have h3 := hr.rd hy
  generalize hA : a.eval m = ym at h1
  cases h1 with
  | map _ b hb =>
    have hobj := hr.st.objs l _ _ hb hσ
    cases hobj with
    | map _ _ es clock hbb hlen hkk hrr hmm =>
      have hlt := (hr.st.fresh l _ b hb rfl).2
      rw [encM_length] at hlen
      have hkeys : es.toList.map (·.key) = (al.map (·.1)).map ek := by
        apply List.ext_getElem?
        intro i
        rw [List.getElem?_map, List.map_map, List.getElem?_map, Array.getElem?_toList]
        rcases Nat.lt_or_ge i es.size with h | h
        · have h' : i < al.length := by omega
          rw [Array.getElem?_eq_getElem h, List.getElem?_eq_getElem h']
          simp only [Option.map_some, Function.comp]
          congr 1
          exact hkk i (ek al[i].1) (ev al[i].2) _ (by simp [encM, List.getElem?_map, List.getElem?_eq_getElem h']) (Array.getElem?_eq_getElem h)
        · rw [Array.getElem?_eq_none h, List.getElem?_eq_none (by omega)]; rfl
      have hfind := K.find w key es.toList _ hkeys
      have step : ∀ (es' : Array MapEntry) (clock' : Nat) (al' : List (κ × α)), (execOp a.eval o).run P w = .ok .skip { w with heap := w.heap.setIfInBounds b (.map es' clock') } → ins al key v = al' →
          es'.size = al'.length → (∀ (i : Nat) p e, al'[i]? = some p → es'[i]? = some e → e.key = ek p.1 ∧ VRel G.M G.B (ev p.2) e.val) →
          Oper.upon P o a (fun a' w' => ∃ env' σ' G', k env' σ' ∧ G.Le G' ∧ ARel n G' env' σ' a' w') noQ ((execOp a.eval o).run P w) := by
        intro es' clock' al' hrun hins hsz hrel
        rw [hrun]
        have hs := hr.st.upd (o' := .map (encM ek ev al')) (w' := { w with heap := w.heap.setIfInBounds b (.map es' clock') }) hb rfl (by simp) (fun k hk => by rw [heap_set w b _ hlt, if_neg hk])
          (.map b _ es' clock' (by rw [heap_set w b _ hlt, if_pos rfl]) (by rw [encM_length]; exact hsz) (fun i k' v' e h4 h5 => by
            obtain ⟨p, h6, rfl, rfl⟩ := encM_get h4; exact (hrel i p e h6 h5).1) (fun i k' v' e h4 h5 => by
            obtain ⟨p, h6, rfl, rfl⟩ := encM_get h4; exact (hrel i p e h6 h5).2) hmm)
          ⟨mem_of_notcell hr.st.memok hbb (by intros; simp), hmm⟩ ⟨rfl, rfl⟩
        refine ⟨_, _, G, hk, Gh.Le.refl G, ?_⟩
        rw [hins]
        have hr' : ARel n G env (σ.set l (.map (encM ek ev al'))) a { w with heap := w.heap.setIfInBounds b (.map es' clock') } := ⟨hr.size, hr.defers, hr.vals, hs⟩
        exact hr'.putO (dstOk_spec hdn) (.any _)
      have hold : ∀ (i : Nat) p e, al[i]? = some p → es[i]? = some e → e.key = ek p.1 ∧ VRel G.M G.B (ev p.2) e.val := fun i p e h4 h5 =>
        ⟨hkk i _ (ev p.2) e (by simp [encM, h4]) h5, hrr i (ek p.1) _ e (by simp [encM, h4]) h5⟩
      -- the place of the key
      have hplace : ∀ (al : List (κ × α)), (match (al.map (·.1)).findIdx? (fun x => decide (x = key)) with | some i => ins al key v = al.set i (key, v) ∧ i < al.length ∧ (∀ p, al[i]? = some p → p.1 = key) | none => ins al key v = al ++ [(key, v)]) := by
        intro al
        induction al with
        | nil => rfl
        | cons p r ih =>
          obtain ⟨k', v'⟩ := p
          simp only [List.map_cons, List.findIdx?_cons]
          by_cases hkx : k' = key
          · simp [hkx, ins]
          · simp only [hkx, decide_false, Bool.false_eq_true, if_false, ins]
            cases hf : (r.map (·.1)).findIdx? (fun x => decide (x = key)) with
            | none => simp only [hf] at ih; simp [ih]
            | some i => simp only [hf] at ih; simp [ih.1, ih.2.1]; exact ih.2.2 _ (List.getElem?_eq_getElem ih.2.1)
      have hp := hplace al
      unfold Oper.wp
      cases hf : (al.map (·.1)).findIdx? (fun x => decide (x = key)) with
      | none =>
        simp only [hf] at hp hfind
        refine step (es.push { key := ek key, val := a.eval y, born := clock }) (clock + 1) _ ?_ hp (by simp [hlen]) ?_
        · simp only [execOp, ho, hA, h2, Instr.mapUpdate]
          simp [hl.mapT w, getObj, setObj, Sem.run, hbb, K.check, hfind]
        · intro i p e h4 h5
          rw [Array.getElem?_push] at h5
          split at h5
          · rename_i hi
            simp at h5; subst h5
            rw [List.getElem?_append_right (by omega), hi, hlen] at h4
            simp at h4; subst h4
            exact ⟨rfl, h3⟩
          · rename_i hi
            have : i < es.size := by
              rcases Nat.lt_or_ge i es.size with h | h
              · exact h
              · simp [Array.getElem?_eq_none h] at h5
            rw [List.getElem?_append_left (by omega)] at h4
            exact hold i p e h4 h5
      | some j =>
        simp only [hf] at hp hfind
        obtain ⟨hp1, hp2, hp3⟩ := hp
        have hjs : j < es.size := by omega
        have hkey : es[j].key = ek key := by
          have := (hold j al[j] es[j] (List.getElem?_eq_getElem hp2) (Array.getElem?_eq_getElem hjs)).1
          rw [this, hp3 _ (List.getElem?_eq_getElem hp2)]
        refine step (es.modify j fun e => { e with key := ek key, val := a.eval y }) clock _ ?_ hp1 (by simp [hlen]) ?_
        · simp only [execOp, ho, hA, h2, Instr.mapUpdate]
          have e1 : (Option.bind (some j) fun i => (es.toList[i]?).map fun e => (i, e.val)) = some (j, es[j].val) := by simp [hjs]
          rw [e1] at hfind
          simp [hl.mapT w, getObj, setObj, Sem.run, hbb, K.check, hfind, hjs, hkey, K.stays]
        · intro i p e h4 h5
          rw [Array.getElem?_modify] at h5
          by_cases hij : j = i
          · subst hij
            rw [List.getElem?_set_self hp2] at h4
            simp at h4; subst h4
            simp [hjs] at h5; subst h5
            exact ⟨rfl, h3⟩
          · rw [List.getElem?_set_ne hij] at h4
            rw [if_neg hij] at h5
            exact hold i p e h4 h5

def zeroAV (li : LI) : AV := if li.lt.isAgg then .agg (li.zero.map Z.av) else (li.zero.map Z.av).headD .any
theorem zeroAV_rel {li : LI} (h1 : li.lt.isAgg = false → ∃ z, li.zero = [z]) (M : Mem) (B : List GB) : VRel M B (zeroAV li) li.zeroVal := by
  have hz : ∀ z : Z, VRel M B z.av z.val := fun z => by cases z <;> first | exact .prim _ | exact .nils | exact .imapz
  unfold zeroAV LI.zeroVal
  cases ha : li.lt.isAgg with
  | true =>
    refine .agg _ _ (by simp) fun i c hi => ?_
    simp only [List.getElem?_map, Option.map_eq_some_iff] at hi
    obtain ⟨z, h2, rfl⟩ := hi
    simpa [Array.getD_eq_getD_getElem?, h2] using hz z
  | false =>
    obtain ⟨z, h2⟩ := h1 ha
    rw [h2]; exact hz z

def lookTail (kt et : TypeId) (kv : Value) (ok : Bool) (es : Array MapEntry) : Sem Value := do
  Instr.checkKey es.isEmpty 10000 kt kv
  let (v, f) ← match ← Instr.findKey kt kv es.toList with
    | some (_, v) => pure (v, true)
    | none => pure (← zeroValue et, false)
  pure (if ok then .tuple #[v, .bool f] else v)

theorem lookTail_run {κ α : Type} [DecidableEq κ] {ek : κ → Value} {ev : α → AV} {kt et : TypeId} {al : List (κ × α)} {key : κ} {zv : α} {ok : Bool} {le : LI} {M : Mem} {B : List GB} (w : World)
    (K : KeyLaw P kt ek) (he : LOk P et le) (hz : zeroAV le = ev zv) (es : Array MapEntry) (hsz : es.size = al.length) (hrel : ∀ (i : Nat) p e, al[i]? = some p → es[i]? = some e → e.key = ek p.1 ∧ VRel M B (ev p.2) e.val) :
    ∃ x, (lookTail kt et (ek key) ok es).run P w = .ok x w ∧ VRel M B (if ok then .tup [ev ((lk al key).getD zv), .b (lk al key).isSome] else ev ((lk al key).getD zv)) x := by
  have hzr : VRel M B (ev zv) le.zeroVal := hz ▸ zeroAV_rel he.one _ _
  have hkeys : es.toList.map (·.key) = (al.map (·.1)).map ek := by
    apply List.ext_getElem?
    intro i
    rw [List.getElem?_map, List.map_map, List.getElem?_map, Array.getElem?_toList]
    rcases Nat.lt_or_ge i es.size with h | h
    · have h' : i < al.length := by omega
      rw [Array.getElem?_eq_getElem h, List.getElem?_eq_getElem h']
      simp only [Option.map_some, Function.comp]
      congr 1
      exact (hrel i _ _ (List.getElem?_eq_getElem h') (Array.getElem?_eq_getElem h)).1
    · rw [Array.getElem?_eq_none h, List.getElem?_eq_none (by omega)]; rfl
  have hfind := K.find w key es.toList _ hkeys
  have hlk : lk al key = (((al.map (·.1)).findIdx? (fun x => decide (x = key))).bind (fun i => al[i]?)).map (·.2) := by rw [lk_find, idx_lk]
  have fin : ∀ (v : Value) (f : Bool), VRel M B (ev ((lk al key).getD zv)) v → (lk al key).isSome = f → VRel M B (if ok then .tup [ev ((lk al key).getD zv), .b (lk al key).isSome] else ev ((lk al key).getD zv)) (if ok then .tuple #[v, .bool f] else v) := by
    intro v f h3 h4
    cases ok with
    | false => simpa using h3
    | true =>
      simp only [if_true]
      refine .tup _ _ rfl fun i c hi => ?_
      match i, hi with
      | 0, hi => simp at hi; subst hi; exact h3
      | 1, hi => simp at hi; subst hi; rw [h4]; exact .prim _
      | i + 2, hi => simp at hi
  cases hf : (al.map (·.1)).findIdx? (fun x => decide (x = key)) with
  | none =>
    rw [hf] at hlk hfind
    refine ⟨if ok then .tuple #[le.zeroVal, .bool false] else le.zeroVal, ?_, fin _ _ (by rw [hlk]; exact hzr) (by rw [hlk]; rfl)⟩
    unfold lookTail
    simp [K.check, hfind, he.run_zero w]
  | some j =>
    rw [hf] at hlk hfind
    have hj : j < al.length := by
      have h5 := (List.findIdx?_eq_some_iff_getElem.1 hf).1
      simpa using h5
    have hjs : j < es.size := by omega
    have h3 := (hrel j _ _ (List.getElem?_eq_getElem hj) (Array.getElem?_eq_getElem hjs)).2
    have e2 : lk al key = some al[j].2 := by rw [hlk]; simp [hj]
    have e1 : (Option.bind (some j) fun i => (es.toList[i]?).map fun e => (i, e.val)) = some (j, es[j].val) := by simp [hjs]
    rw [e1] at hfind
    refine ⟨if ok then .tuple #[es[j].val, .bool true] else es[j].val, ?_, fin _ _ (by rw [e2]; exact h3) (by rw [e2]; rfl)⟩
    unfold lookTail
    simp [K.check, hfind]

/-- What lies under a key: of a map that stays, or of a local one. -/
theorem PRun.lookup {κ α : Type} [DecidableEq κ] {ek : κ → Value} {ev : α → AV} {t kt et : TypeId} {m x : Operand} {al : List (κ × α)} {key : κ} {zv : α} {uk um : AV} {ok : Bool} {s1 b1 : Nat} {z : List Z} {le : LI}
    (K : KeyLaw P kt ek) (hl : LOk P t ⟨.map kt et, s1, b1, z⟩) (he : LOk P et le) (hz : zeroAV le = ev zv) (ho : o.op = .lookup t m x ok) (hm : Rd env m um)
    (hum : um = .imap (encM ek ev al) ∨ ∃ l, um = .map l ∧ σ[l]? = some (.map (encM ek ev al)))
    (hx : Rd env x uk) (hex : exactV uk = some (ek key)) : PRun P o env σ (if ok then .tup [ev ((lk al key).getD zv), .b (lk al key).isSome] else ev ((lk al key).getD zv)) := by
  refine .of fun G a w hs hv => ?_
  have h1 := rd hm (by simp [ho, Op.operands]) hv
  have h2 := exactV_spec hex (rd hx (by simp [ho, Op.operands]) hv)
  have run : ∀ (mv : Value) (es : Array MapEntry) (v : Value), a.eval m = mv → (mv = .map none ∧ es = #[] ∨ ∃ b clock, mv = .map (some b) ∧ w.heap[b]? = some (.map es clock)) → (lookTail kt et (ek key) ok es).run P w = .ok v w →
      (execOp a.eval o).run P w = .ok (.value v) w := by
    intro mv es v hA hmv ht
    unfold lookTail at ht
    rcases hmv with ⟨rfl, rfl⟩ | ⟨b, clock, rfl, hb⟩
    · simp only [execOp, ho, hA, h2, Instr.lookup]
      rw [Sem.run_bind, Sem.run_bind, hl.mapT w]
      simp only [Result.andThen_ok]
      rw [Sem.run_bind, Sem.run_pure]
      simp only [Result.andThen_ok]
      erw [ht]; rfl
    · simp only [execOp, ho, hA, h2, Instr.lookup]
      rw [Sem.run_bind, Sem.run_bind, hl.mapT w]
      simp only [Result.andThen_ok]
      have hg : (getObj b).run P w = .ok (.map es clock) w := by simp [getObj, Sem.run, hb]
      rw [Sem.run_bind, hg]
      simp only [Result.andThen_ok]
      rw [Sem.run_bind, Sem.run_pure]
      simp only [Result.andThen_ok]
      erw [ht]; rfl
  rcases hum with rfl | ⟨l, rfl, hσ⟩
  · generalize hA : a.eval m = y at h1
    generalize hkv : encM ek ev al = kvs at h1
    cases h1 with
    | imapz =>
      have : al.length = 0 := by rw [← encM_length ek ev al, hkv]; rfl
      obtain ⟨v, h5, h6⟩ := lookTail_run (M := G.M) (B := G.B) (ok := ok) (key := key) w K he hz #[] (by rw [this]; rfl) (fun i p e _ h => by simp at h)
      exact ⟨v, run _ _ _ hA (.inl ⟨rfl, rfl⟩) h5, h6⟩
    | imap _ b es hmm hlen hkk hrr =>
      subst hkv
      obtain ⟨clock, hb⟩ := hs.memok.2 _ _ hmm
      rw [encM_length] at hlen
      obtain ⟨v, h5, h6⟩ := lookTail_run (M := G.M) (B := G.B) (ok := ok) (key := key) w K he hz es hlen (fun i p e h4 h5 => ⟨hkk i _ (ev p.2) e (by simp [encM, h4]) h5, (hrr i (ek p.1) _ e (by simp [encM, h4]) h5).mono (Mem.Le.refl _) (BLe.nil _)⟩)
      exact ⟨v, run _ _ _ hA (.inr ⟨b, clock, rfl, hb⟩) h5, h6⟩
  · generalize hA : a.eval m = y at h1
    cases h1 with
    | map _ b hb =>
      have hobj := hs.objs l _ _ hb hσ
      cases hobj with
      | map _ _ es clock hbb hlen hkk hrr hmm =>
        rw [encM_length] at hlen
        obtain ⟨v, h5, h6⟩ := lookTail_run (M := G.M) (B := G.B) (ok := ok) (key := key) w K he hz es hlen (fun i p e h4 h5 => ⟨hkk i _ (ev p.2) e (by simp [encM, h4]) h5, hrr i (ek p.1) _ e (by simp [encM, h4]) h5⟩)
        exact ⟨v, run _ _ _ hA (.inr ⟨b, clock, rfl, hbb⟩) h5, h6⟩

/-- How many entries a map has. -/
theorem PRun.lenMap {κ α : Type} {ek : κ → Value} {ev : α → AV} {x : Operand} {t kt et : TypeId} {al : List (κ × α)} {um : AV} {s1 b1 : Nat} {z : List Z} (ho : o.op = .call { callee := .builtin .len, args := #[x], argTypes := #[t] })
    (hx : Rd env x um) (hum : um = .imap (encM ek ev al) ∨ ∃ l, um = .map l ∧ σ[l]? = some (.map (encM ek ev al))) (hl : LOk P t ⟨.map kt et, s1, b1, z⟩) : PRun P o env σ (.int al.length) := by
  refine .of fun G a w hs hv => ⟨.int .i64 al.length, ?_, .prim _⟩
  have h1 := rd hx (by simp [ho, Op.operands, Call.operands]) hv
  rcases hum with rfl | ⟨l, rfl, hσ⟩
  · generalize hA : a.eval x = y at h1
    generalize hkv : encM ek ev al = kvs at h1
    cases h1 with
    | imapz =>
      have : al.length = 0 := by rw [← encM_length ek ev al, hkv]; rfl
      simp [execOp, ho, hA, resolve, invoke, builtin, Builtin.len_, hl.mapT w, goInt, this]
    | imap _ b es hmm hlen hkk hrr =>
      subst hkv
      obtain ⟨clock, hb⟩ := hs.memok.2 _ _ hmm
      rw [encM_length] at hlen
      simp [execOp, ho, hA, resolve, invoke, builtin, Builtin.len_, hl.mapT w, goInt, getObj, Sem.run, hb, hlen]
  · generalize hA : a.eval x = y at h1
    cases h1 with
    | map _ b hb =>
      have hobj := hs.objs l _ _ hb hσ
      cases hobj with
      | map _ _ es clock hbb hlen hkk hrr hmm =>
        rw [encM_length] at hlen
        simp [execOp, ho, hA, resolve, invoke, builtin, Builtin.len_, hl.mapT w, goInt, getObj, Sem.run, hbb, hlen]
end
end Go.Ab
