/- The abstract program logic, part 3. No statement is proved here. -/
import Derived.Test.YtnmdmmfdnnmdfaaDoorM2
import Derived.Laws.Append
import Derived.Deep.AppendSrc
import Derived.WalkKit
import Derived.ProofKit
import Derived.OpenShut
import Derived.ShutString
import Derived.ChangeOld
import Derived.Below
import Derived.Carry
import Derived.Deep.Slices
import Derived.Deep.Strs
import Derived.Lib.SmallJoins
set_option linter.unusedVariables false
set_option linter.unusedSimpArgs false
/- Growing arrays: append. -/
namespace Go.Ab

/-- One growing array takes another place or another length; all else stays. -/
theorem SRel.regrow {G : Gh} {σ : Store} {w w' : World} (h : SRel G σ w) {l bs : Nat} {g g' : GB} {o' : AObj} {M' : Mem} (hl : G.B[l]? = some g) (hle : G.M.Le M') (hB : g.Le g') (hg' : g'.block = some bs)
    (hsz : w.heap.size ≤ w'.heap.size) (hh : ∀ k, k ≠ bs → k < w.heap.size → w'.heap[k]? = w.heap[k]?) (hmm : M'.map = G.M.map) (hmc : ∀ b, b ≠ bs → ∀ o, M'.cell b o = G.M.cell b o) (hok : MemOk M' w')
    (hbs : g.block = some bs ∨ w.heap.size ≤ bs) (hbs' : bs < w'.heap.size) (hout : OutR w w') (ho : ORel M' (G.B.set l g') w' g' o') : SRel { G with M := M', B := G.B.set l g' } (σ.set l o') w' := by
  have hlb : l < G.B.length := by
    rcases Nat.lt_or_ge l G.B.length with h' | h'
    · exact h'
    · simp [List.getElem?_eq_none h'] at hl
  have hls : l < σ.length := by rw [← h.len]; exact hlb
  have hw0 : ¬ G.w0.prot bs := by
    rcases hbs with hb | hb
    · exact (h.fresh l g bs hl hb).1
    · exact h.pnew hb
  have hBle : BLe G.B (G.B.set l g') := by
    intro l' g1 h1
    by_cases e : l = l'
    · subst e
      rw [hl] at h1; simp at h1; subst h1
      exact ⟨g', by rw [List.getElem?_set_self hlb], hB⟩
    · exact ⟨g1, by rw [List.getElem?_set_ne e]; exact h1, GB.Le.refl _⟩
  have other : ∀ (l' : Nat) (g1 : GB) (b : Nat), l ≠ l' → G.B[l']? = some g1 → g1.block = some b → b ≠ bs := by
    intro l' g1 b hne h1 h2 e
    subst e
    rcases hbs with hb | hb
    · exact hne (h.inj l l' g g1 b hl h1 hb h2)
    · have := (h.fresh l' g1 b h1 h2).2; omega
  refine ⟨hok, fun b hb => ?_, ⟨Nat.le_trans h.base.1 hsz, fun b hb => ?_⟩, by simp [h.len], fun l' g1 o1 h1 h2 => ?_, fun l' g1 b h1 h2 => ?_, fun l1 l2 g1 g2 b h1 h2 h3 h4 => ?_, h.out.trans hout, ⟨fun p hp => ?_, h.dfr.2⟩⟩
  · have := h.m0 b hb
    exact ⟨fun o => (hmc b (fun e => hw0 (e ▸ hb)) o).trans (this.1 o), by rw [show M'.map b = G.M.map b by rw [hmm]]; exact this.2⟩
  · rw [hh b (fun e => hw0 (e ▸ hb)) (h.plow hb)]; exact h.base.2 b hb
  · by_cases e : l = l'
    · subst e
      rw [List.getElem?_set_self hlb] at h1
      rw [List.getElem?_set_self hls] at h2
      simp at h1 h2; subst h1; subst h2; exact ho
    · rw [List.getElem?_set_ne e] at h1 h2
      have ho1 := h.objs l' g1 o1 h1 h2
      have hne := fun b hb => other l' g1 b e h1 hb
      have hfr := fun b hb => (h.fresh l' g1 b h1 hb).2
      exact ho1.grow hle hBle (fun b hb => hh b (hne b hb) (hfr b hb)) fun b hb => ⟨fun o => hmc b (hne b hb) o, by rw [hmm]⟩
  · by_cases e : l = l'
    · subst e
      rw [List.getElem?_set_self hlb] at h1
      simp at h1; subst h1
      rw [hg'] at h2; simp at h2; subst h2
      exact ⟨hw0, hbs'⟩
    · rw [List.getElem?_set_ne e] at h1
      have := h.fresh l' g1 b h1 h2
      exact ⟨this.1, Nat.lt_of_lt_of_le this.2 hsz⟩
  · by_cases e1 : l = l1 <;> by_cases e2 : l = l2
    · rw [← e1, ← e2]
    · subst e1
      rw [List.getElem?_set_self hlb] at h1
      rw [List.getElem?_set_ne e2] at h2
      simp at h1; subst h1
      rw [hg'] at h3; simp at h3; subst h3
      exact absurd rfl (other l2 g2 _ e2 h2 h4)
    · subst e2
      rw [List.getElem?_set_self hlb] at h2
      rw [List.getElem?_set_ne e1] at h1
      simp at h2; subst h2
      rw [hg'] at h4; simp at h4; subst h4
      exact absurd rfl (other l1 g1 _ e1 h1 h3)
    · rw [List.getElem?_set_ne e1] at h1
      rw [List.getElem?_set_ne e2] at h2
      exact h.inj l1 l2 g1 g2 b h1 h2 h3 h4
  · obtain ⟨k1, k2, k3, k4, k5⟩ := h.dfr.1 p hp
    have hlt := h.dfr_lt hp
    have hne : p.1 ≠ bs := by
      rcases hbs with hb | hb
      · exact fun e => k3 l g hl (by rw [hb, e])
      · omega
    refine ⟨(hh _ hne hlt).trans k1, k2, fun l' g1 h1 e => ?_, fun o => (hmc _ hne o).trans (k4 o), by rw [hmm]; exact k5⟩
    by_cases e1 : l = l'
    · subst e1
      rw [List.getElem?_set_self hlb] at h1
      simp at h1; subst h1
      rw [hg'] at e; simp at e; exact hne e.symm
    · rw [List.getElem?_set_ne e1] at h1
      exact k3 l' g1 h1 e

theorem ORel.own_inv {M : Mem} {B : List GB} {w : World} {ob : Option Nat} {cp nf sz m : Nat} (h : ORel M B w (.own ob cp nf) (.own sz m)) : nf = m ∧ ((ob = none ∧ cp = 0 ∧ m = 0) ∨
    ∃ b c T fr, ob = some b ∧ w.heap[b]? = some (.cells c T fr) ∧ Free fr c.size ∧ c.size = cp * sz ∧ m ≤ cp ∧ ∀ o, m * sz ≤ o → M.cell b o = none) := by
  cases h with
  | ownz => exact ⟨rfl, .inl ⟨rfl, rfl, rfl⟩⟩
  | own b cap _ _ c T fr hb hf hl hn hm => exact ⟨rfl, .inr ⟨b, c, T, fr, rfl, hb, hf, hl, hn, hm⟩⟩

theorem BLe.set {B : List GB} {l : Nat} {g g' : GB} (hl : B[l]? = some g) (hg : g.Le g') : BLe B (B.set l g') := by
  have hlb : l < B.length := by
    rcases Nat.lt_or_ge l B.length with h' | h'
    · exact h'
    · simp [List.getElem?_eq_none h'] at hl
  intro l' g1 h1
  by_cases e : l = l'
  · subst e
    rw [hl] at h1; simp at h1; subst h1
    exact ⟨g', by rw [List.getElem?_set_self hlb], hg⟩
  · exact ⟨g1, by rw [List.getElem?_set_ne e]; exact h1, GB.Le.refl _⟩

/-- The elements of what is appended, as cells. -/
def AppRel (M : Mem) (sz : Nat) (es : List (List AV)) (c : Array Value) : Prop :=
  c.size = es.length * sz ∧ (∀ e ∈ es, e.length = sz) ∧ ∀ (i j : Nat) (e : List AV) (a : AV), es[i]? = some e → e[j]? = some a → VRel M [] a (c.getD (i * sz + j) undef)

theorem mul_lt {i n j sz : Nat} (hi : i < n) (hj : j < sz) : i * sz + j < n * sz := by
  have := Nat.mul_le_mul_right sz (show i + 1 ≤ n from hi)
  rw [Nat.add_mul, Nat.one_mul] at this; omega

theorem range_div {k n sz : Nat} (h : k < n * sz) : k / sz < n ∧ k % sz < sz ∧ k = k / sz * sz + k % sz := by
  have hs : 0 < sz := by
    rcases Nat.eq_zero_or_pos sz with h0 | h0
    · subst h0; simp at h
    · exact h0
  refine ⟨Nat.div_lt_of_lt_mul (by rwa [Nat.mul_comm]), Nat.mod_lt _ hs, ?_⟩
  rw [Nat.mul_comm]; exact (Nat.div_add_mod k sz).symm

/-- The cells of a slice, loaded. -/
theorem run_first {P : Program} {M : Mem} {B : List GB} {w : World} {sz : Nat} {es : List (List AV)} {t : Tok} {x : Value} (hm : MemOk M w) (h : VRel M B (.sl sz es t) x) :
    ∃ c, (Builtin.firstCells sz es.length x).run P w = .ok c w ∧ AppRel M sz es c := by
  cases h with
  | slz => exact ⟨#[], rfl, by simp, by simp, fun i j e a h => by simp at h⟩
  | slzz _ a cap => exact ⟨#[], by cases a <;> simp [Builtin.firstCells, loadCells, loadCellsFrom], by simp, by simp, fun i j e a h => by simp at h⟩
  | sl _ _ _ b off cap f hz hm' hr hc ht =>
    refine ⟨((List.range (es.length * sz)).map fun k => f (k / sz) (k % sz)).toArray, ?_, by simp, hz, fun i j e a hi hj => ?_⟩
    · simp only [Builtin.firstCells]
      refine run_loadCells w _ _ (fun k => f (k / sz) (k % sz)) fun k hk => ?_
      obtain ⟨h1, h2, h3⟩ := range_div hk
      rw [addr_add]
      have := hm.1 _ _ _ (hm' _ _ h1 h2)
      rw [show off + k = off + k / sz * sz + k % sz by omega]; exact this
    · have hi' : i < es.length := by
        rcases Nat.lt_or_ge i es.length with h | h
        · exact h
        · simp [List.getElem?_eq_none h] at hi
      have hl := hz e (List.mem_of_getElem? hi)
      have hj' : j < sz := by
        rcases Nat.lt_or_ge j e.length with h | h
        · omega
        · simp [List.getElem?_eq_none h] at hj
      have hlt := mul_lt hi' hj'
      have e1 : (i * sz + j) / sz = i := by
        rw [Nat.mul_comm, Nat.mul_add_div (by omega), Nat.div_eq_of_lt hj']; rfl
      have e2 : (i * sz + j) % sz = j := by
        rw [Nat.mul_comm, Nat.mul_add_mod, Nat.mod_eq_of_lt hj']
      have : (((List.range (es.length * sz)).map fun k => f (k / sz) (k % sz)).toArray).getD (i * sz + j) undef = f i j := by
        simp [hlt, e1, e2]
      rw [this]; exact hr i j e a hi hj

/-- What is appended: a slice's elements, or a string's bytes. -/
inductive AppSrc (T : Tab) (tx : TypeId) (sz : Nat) : AV → List (List AV) → Prop
  | sl {es : List (List AV)} {t : Tok} {e s1 b1 : Nat} {z : List Z} (ht : T.get tx = some ⟨.slice e, s1, b1, z⟩) (h1 : ∀ x ∈ es, x.all oneAV = true) : AppSrc T tx sz (.sl sz es t) es
  | nils {e s1 b1 : Nat} {z : List Z} (ht : T.get tx = some ⟨.slice e, s1, b1, z⟩) : AppSrc T tx sz .nils []
  | str {s : ByteArray} {s1 b1 : Nat} {z : List Z} (ht : T.get tx = some ⟨.str, s1, b1, z⟩) (h1 : sz = 1) : AppSrc T tx sz (.str s) (s.data.toList.map fun b => [.prim (.int .u8 b.toNat)])

theorem LOk.undSlice {P : Program} {t e : TypeId} {sz by' : Nat} {z : List Z} (h : LOk P t ⟨.slice e, sz, by', z⟩) : P.underlying t = some (.slice e) := by
  obtain ⟨d, h1, h2⟩ := h.und
  cases d <;> simp [ltOf] at h2
  subst h2; exact h1
theorem LOk.undStr {P : Program} {t : TypeId} {sz by' : Nat} {z : List Z} (h : LOk P t ⟨.str, sz, by', z⟩) : P.underlying t = some .string := by
  obtain ⟨d, h1, h2⟩ := h.und
  cases d <;> simp [ltOf] at h2
  exact h1

theorem AppSrc.src {P : Program} {T : Tab} (hT : T.Ok P) {tx : TypeId} {sz : Nat} {u : AV} {es : List (List AV)} (h : AppSrc T tx sz u es) {M : Mem} {B : List GB} {w : World} {x : Value} (hm : MemOk M w) (hx : VRel M B u x) :
    ∃ news, Src P sz tx x es.length news w ∧ AppRel M sz es news.toArray := by
  cases h with
  | nils ht => cases hx; exact ⟨[], Src.ofNil w (LOk.of (hT.get ht)).undSlice 0, by simp [AppRel]⟩
  | str ht h1 =>
    subst h1
    have := VRel.prim_eq hx
    subst this
    rename_i s _ _ _
    refine ⟨byteCells s, ?_, ?_⟩
    · have := Src.ofString (P := P) w (LOk.of (hT.get ht)).undStr s
      have e : s.size = (s.data.toList.map fun b => [AV.prim (.int .u8 b.toNat)]).length := by simp
      rwa [e] at this
    · refine ⟨by simp [byteCells], by simp, fun i j e a hi hj => ?_⟩
      simp only [List.getElem?_map, Option.map_eq_some_iff] at hi
      obtain ⟨b, hb, rfl⟩ := hi
      cases j with
      | succ j => simp at hj
      | zero =>
        simp at hj; subst hj
        have : (byteCells s).toArray.getD (i * 1 + 0) undef = .int .u8 b.toNat := by
          simp only [Nat.mul_one, Nat.add_zero, Array.getD_eq_getD_getElem?, List.getElem?_toArray, byteCells, List.getElem?_map, hb]
          rfl
        rw [this]; exact .prim _
  | sl ht h1 =>
    obtain ⟨c, hc1, hc2, hc3, hc4⟩ := run_first (P := P) hm hx
    obtain ⟨c', hc1', hc2', _, _⟩ := run_first (P := P) (w := w.drew) (M := M) ⟨hm.1, hm.2, hm.g⟩ hx
    have hone : ∀ u ∈ c.toList, u.oneCell' = true := by
      intro u hu
      obtain ⟨k, hk, rfl⟩ := List.mem_iff_getElem.1 hu
      have hk' : k < es.length * sz := by rw [← hc2]; simpa using hk
      obtain ⟨g1, g2, g3⟩ := range_div hk'
      have hl := hc3 _ (List.getElem_mem g1)
      have := hc4 (k / sz) (k % sz) _ _ (List.getElem?_eq_getElem g1) (List.getElem?_eq_getElem (by omega : k % sz < (es[k / sz]).length))
      rw [← g3] at this
      have h2 := List.all_eq_true.1 (h1 _ (List.getElem_mem g1)) _ (List.getElem_mem (by omega : k % sz < (es[k / sz]).length))
      have h3 := oneAV_rel h2 this
      have hk2 : k < c.size := by simpa using hk
      simpa [hk2] using h3
    have same : c' = c := by
      have e1 := hc1
      have e2 := hc1'
      -- both are the cells of the same slice
      cases hx with
      | slz => simp [Builtin.firstCells] at e1 e2; rw [e1, e2]
      | slzz _ a cap => cases a <;> (simp [Builtin.firstCells, loadCells, loadCellsFrom] at e1 e2; rw [e1, e2])
      | sl _ _ _ b off cap f hz hm' hr hcc htt =>
        simp only [Builtin.firstCells] at e1 e2
        have l1 := run_loadCells (P := P) w ⟨b, off, none⟩ (es.length * sz) (fun k => f (k / sz) (k % sz)) (fun k hk => by
          obtain ⟨g1, g2, g3⟩ := range_div hk
          rw [addr_add, show off + k = off + k / sz * sz + k % sz by omega]; exact hm.1 _ _ _ (hm' _ _ g1 g2))
        have l2 := run_loadCells (P := P) w.drew ⟨b, off, none⟩ (es.length * sz) (fun k => f (k / sz) (k % sz)) (fun k hk => by
          obtain ⟨g1, g2, g3⟩ := range_div hk
          rw [addr_add, show off + k = off + k / sz * sz + k % sz by omega]; exact hm.1 _ _ _ (hm' _ _ g1 g2))
        rw [l1] at e1; rw [l2] at e2
        simp at e1 e2
        rw [← e1, ← e2]
    subst same
    refine ⟨c'.toList, ⟨.inl ⟨_, (LOk.of (hT.get ht)).undSlice⟩, fun w' => ?_, by simpa using hc1, by simpa using hc1', by simp [hc2], hone⟩, by simpa using ⟨hc2, hc3, hc4⟩⟩
    cases hx <;> rfl

theorem run_append_room' {P : Program} (w w' : World) (t tx ty e : TypeId) (i : TypeInfo) (ht : P.underlying t = some (.slice e)) (hi : P.info? e = some i) (b off sLen sCap : Nat) (x : Value) (n : Nat) (news : List Value) (hs : Src P i.size tx x n news w)
    (hroom : sLen + n ≤ sCap) (hst : (storeCells ⟨b, off + sLen * i.size, none⟩ news 0).run P w = .ok () w') :
    (Builtin.append_ #[t, tx] ty #[.slice (some ⟨b, off, none⟩) sLen sCap, x]).run P w = .ok (.slice (some ⟨b, off, none⟩) (sLen + n) sCap) w' := by
  rcases hs.kind with ⟨e', hk⟩ | hk <;> simp [Builtin.append_, run_underlying ht, run_underlying hk, sizeOf, typeInfo, hi, hs.len, hroom, hs.cells, Addr.add_lit, hst]

/-- A row of cells reads as elements, one behind the other. -/
theorem vrel_row {M : Mem} {B : List GB} {sz : Nat} {es : List (List AV)} {t : Tok} {b cap : Nat} {c : Array Value} (hz : ∀ e ∈ es, e.length = sz) (hc : es.length ≤ cap) (hm : ∀ o, o < es.length * sz → M.cell b o = some (c.getD o undef))
    (hr : ∀ (i j : Nat) (e : List AV) (a : AV), es[i]? = some e → e[j]? = some a → VRel M [] a (c.getD (i * sz + j) undef)) (ht : TokOk B t (some (b, 0)) es.length cap) : VRel M B (.sl sz es t) (.slice (some ⟨b, 0, none⟩) es.length cap) :=
  .sl sz es t b 0 cap (fun i j => c.getD (i * sz + j) undef) hz (fun i j hi hj => by rw [Nat.zero_add]; exact hm _ (mul_lt hi hj)) hr hc ht

theorem get_append2 {es es2 : List (List AV)} {sz : Nat} {M : Mem} {c1 c2 c : Array Value} (h1 : AppRel M sz es c1) (h2 : AppRel M sz es2 c2) (hc1 : ∀ o, o < es.length * sz → c.getD o undef = c1.getD o undef) (hc2 : ∀ o, o < es2.length * sz → c.getD (es.length * sz + o) undef = c2.getD o undef) :
    ∀ (i j : Nat) (e : List AV) (a : AV), (es ++ es2)[i]? = some e → e[j]? = some a → VRel M [] a (c.getD (i * sz + j) undef) := by
  intro i j e a hi hj
  rcases Nat.lt_or_ge i es.length with h | h
  · rw [List.getElem?_append_left h] at hi
    have hl := h1.2.1 e (List.mem_of_getElem? hi)
    have hj' : j < sz := by
      rcases Nat.lt_or_ge j e.length with h | h
      · omega
      · simp [List.getElem?_eq_none h] at hj
    rw [hc1 _ (mul_lt h hj')]
    exact h1.2.2 i j e a hi hj
  · rw [List.getElem?_append_right h] at hi
    have hl := h2.2.1 e (List.mem_of_getElem? hi)
    have hj' : j < sz := by
      rcases Nat.lt_or_ge j e.length with h | h
      · omega
      · simp [List.getElem?_eq_none h] at hj
    have hi' : i - es.length < es2.length := by
      rcases Nat.lt_or_ge (i - es.length) es2.length with h' | h'
      · exact h'
      · simp [List.getElem?_eq_none h'] at hi
    have := hc2 _ (mul_lt hi' hj')
    have e1 : es.length * sz + ((i - es.length) * sz + j) = i * sz + j := by
      rw [← Nat.add_assoc, ← Nat.add_mul]; congr 2; omega
    rw [e1] at this
    rw [this]
    exact h2.2.2 _ j e a hi hj

section
variable {P : Program} {n : Nat} {ops : Array Oper} {o : Oper} {env : Env} {σ : Store} {k : Env → Store → Prop} {T : Tab}

/-- append to a growing array of the call's own. -/
theorem EStep.appendOwn (hT : T.Ok P) {s x : Operand} {t tx e : TypeId} {d l sz : Nat} {es es2 : List (List AV)} {u : AV} {s1 b1 : Nat} {z : List Z} {le : LI} (ho : o.op = .call { callee := .builtin .append, args := #[s, x], argTypes := #[t, tx] })
    (hg : o.guard = none) (hd : o.dst = some d) (hdn : d < n) (hs : Rd env s (.sl sz es (.own l))) (hσ : σ[l]? = some (.own sz es.length)) (hx : Rd env x u) (hsrc : AppSrc T tx sz u es2)
    (hl : LOk P t ⟨.slice e, s1, b1, z⟩) (he : LOk P e le) (hsz : le.size = sz) (hz0 : le.zero.length = le.size) (hbound : (es.length + es2.length) * le.bytes ≤ 140737488355328) (hb2 : es.length + es2.length ≤ 9223372036854775807)
    (hk : k (env.put d (.sl sz (es ++ es2) (.own l))) (σ.set l (.own sz (es.length + es2.length)))) : EStep P n ops o k env σ := by
  refine EStep.plain hg fun G a w hr => ?_
  have h1 := hr.rd hs
  obtain ⟨news, hS, hN⟩ := hsrc.src hT hr.st.memok (hr.rd hx)
  generalize hA : a.eval s = sv at h1
  obtain ⟨i, hi1, hi2, hi3, hi4⟩ := he.info
  have hund := hl.undSlice
  have hS' : Src P i.size tx (a.eval x) es2.length news w := by rw [hi2, hsz]; exact hS
  have hNs : news.length = es2.length * sz := by have := hN.1; simpa using this
  -- the array's own place
  have hgb : ∃ g, G.B[l]? = some g := ⟨_, List.getElem?_eq_getElem (by
    rw [hr.st.len]
    rcases Nat.lt_or_ge l σ.length with h | h
    · exact h
    · simp [List.getElem?_eq_none h] at hσ)⟩
  obtain ⟨g, hgl⟩ := hgb
  have hobj := hr.st.objs l g _ hgl hσ
  have hzc : le.zeroVal.cells.size = sz := by
    unfold LI.zeroVal
    cases ha : le.lt.isAgg with
    | true => simp [Value.cells, hz0, hsz]
    | false =>
      obtain ⟨z', hz'⟩ := he.one ha
      rw [hz'] at hz0 ⊢
      simp at hz0
      rw [← hsz, ← hz0]
      cases z' <;> rfl
  -- what a new row comes to
  have grow : ∀ (base : Option Addr) (cap : Nat) (olds : List Value), a.eval s = .slice base es.length cap → AppRel G.M sz es olds.toArray → (Builtin.firstCells i.size es.length (.slice base es.length cap)).run P w.drew = .ok olds.toArray w.drew → cap < es.length + es2.length → g.Le (.own (some w.heap.size) (grownCap w (es.length + es2.length) cap e) (es.length + es2.length)) →
      OWP P o a w (fun a' w' => ∃ env' σ' G', k env' σ' ∧ G.Le G' ∧ ARel n G' env' σ' a' w') := by
    intro base cap olds hsv hO hold hlt hgle
    have hrun := run_append_grow_src (P := P) w t tx o.type e i le.zeroVal hund hi1 (by rw [hi4]; rfl) base es.length cap olds hold (a.eval x) es2.length news hS' hlt (by omega) (growslice_fits hlt (by rw [hi3]; exact hbound))
    have hOs : olds.length = es.length * sz := by have := hO.1; simpa using this
    have hcapge : es.length + es2.length ≤ grownCap w (es.length + es2.length) cap e := by unfold grownCap Question.cut; exact Nat.le_add_right _ _
    generalize hrow : ((olds ++ news).toArray ++ Builtin.zeroCells le.zeroVal.cells (grownCap w (es.length + es2.length) cap e - (es.length + es2.length))) = row at hrun
    have hrowsz : row.size = grownCap w (es.length + es2.length) cap e * sz := by
      rw [← hrow]
      simp only [Array.size_append, List.size_toArray, List.length_append, size_zeroCells, hzc, hOs, hNs, ← Nat.add_mul]
      congr 1; omega
    have hrun2 : (execOp a.eval o).run P w = .ok (.value (.slice (some ⟨w.heap.size, 0, none⟩) (es.length + es2.length) (grownCap w (es.length + es2.length) cap e))) (w.drew.alloc (.cells row e)) := by
      simp [execOp, ho, resolve, invoke, builtin, hsv, hrun]
    unfold OWP
    rw [hrun2]
    -- the first cells of the row
    have row1 : ∀ o, o < es.length * sz → row.getD o undef = olds.toArray.getD o undef := by
      intro o ho
      rw [← hrow]
      simp only [Array.getD_eq_getD_getElem?, List.append_toArray]
      rw [Array.getElem?_append_left (by simp; omega)]
      simp only [List.getElem?_toArray]
      rw [List.getElem?_append_left (by omega)]
    have row2 : ∀ o, o < es2.length * sz → row.getD (es.length * sz + o) undef = news.toArray.getD o undef := by
      intro o ho
      rw [← hrow]
      simp only [Array.getD_eq_getD_getElem?, List.append_toArray]
      rw [Array.getElem?_append_left (by simp; omega)]
      simp only [List.getElem?_toArray]
      rw [List.getElem?_append_right (by omega), hOs, Nat.add_sub_cancel_left]
    have hm0 := (mem_lt hr.st.memok _ (Nat.le_refl w.heap.size)).1
    let M' : Mem := { G.M with cell := fun b o => if b = w.heap.size then (if o < (es.length + es2.length) * sz then some (row.getD o undef) else none) else G.M.cell b o }
    have hle : G.M.Le M' := ⟨fun b o v hv => by
      show (if b = w.heap.size then _ else _) = _
      split
      · rename_i e; subst e; rw [hm0 o] at hv; cases hv
      · exact hv, fun _ _ h => h⟩
    have hheap : (w.drew.alloc (.cells row e)).heap[w.heap.size]? = some (.cells row e) := by rw [heap_alloc]; simp
    have hok : MemOk M' (w.drew.alloc (.cells row e)) := by
      refine ⟨fun b o v hv => ?_, fun b es' hb => ?_, hr.st.memok.g.mono hle⟩
      · change (if b = w.heap.size then _ else _) = _ at hv
        split at hv
        · rename_i eb; subst eb
          split at hv
          · rename_i ho
            have hlt2 : o < row.size := by
              rw [hrowsz]
              exact Nat.lt_of_lt_of_le ho (Nat.mul_le_mul_right _ hcapge)
            simp only [World.cell?, hheap]
            simp at hv
            simp [hlt2, ← hv]
          · simp at hv
        · have h2 := hr.st.memok.1 _ _ _ hv
          have hlt2 := World.block_lt_of_cell? _ _ h2
          have : (w.drew.alloc (.cells row e)).cell? ⟨b, o, none⟩ = w.drew.cell? ⟨b, o, none⟩ := World.cell?_alloc_lt _ _ _ hlt2
          rw [this]; exact h2
      · obtain ⟨cl, h2⟩ := hr.st.memok.2 _ _ hb
        refine ⟨cl, ?_⟩
        rw [heap_alloc]
        split
        · rename_i eb; subst eb; simp at h2
        · exact h2
    have hcells : ∀ o, o < (es.length + es2.length) * sz → M'.cell w.heap.size o = some (row.getD o undef) := fun o ho => by
      show (if w.heap.size = w.heap.size then _ else _) = _
      rw [if_pos rfl, if_pos ho]
    have hs2 : SRel { G with M := M', B := G.B.set l (.own (some w.heap.size) (grownCap w (es.length + es2.length) cap e) (es.length + es2.length)) } (σ.set l (.own sz (es.length + es2.length))) (w.drew.alloc (.cells row e)) := by
      refine hr.st.regrow hgl hle hgle rfl (by simp) (fun k hk hk2 => by rw [heap_alloc]; simp [Nat.ne_of_lt hk2]; rfl) rfl (fun b hb o => if_neg hb) hok (.inr (Nat.le_refl _)) (by simp) OutR.r ?_
      exact .own w.heap.size _ sz _ row e (0, 0) hheap (by intro o _; simp) hrowsz hcapge fun o ho => by
        show (if w.heap.size = w.heap.size then _ else _) = _
        rw [if_pos rfl, if_neg (by omega)]
    have hG : G.Le { G with M := M', B := G.B.set l (.own (some w.heap.size) (grownCap w (es.length + es2.length) cap e) (es.length + es2.length)) } := .up hle (BLe.set hgl hgle)
    refine ⟨_, _, _, hk, hG, ?_⟩
    rw [hd]
    have hr' : ARel n { G with M := M', B := G.B.set l (.own (some w.heap.size) (grownCap w (es.length + es2.length) cap e) (es.length + es2.length)) } env (σ.set l (.own sz (es.length + es2.length))) a (w.drew.alloc (.cells row e)) := ⟨hr.size, hr.defers, fun i => (hr.vals i).mono hle (BLe.set hgl hgle), hs2⟩
    refine hr'.put hdn ?_
    have hO' : AppRel M' sz es olds.toArray := ⟨hO.1, hO.2.1, fun i j e a x y => (hO.2.2 i j e a x y).mono hle (BLe.refl _)⟩
    have hN' : AppRel M' sz es2 news.toArray := ⟨hN.1, hN.2.1, fun i j e a x y => (hN.2.2 i j e a x y).mono hle (BLe.refl _)⟩
    have := vrel_row (M := M') (B := G.B.set l (.own (some w.heap.size) (grownCap w (es.length + es2.length) cap e) (es.length + es2.length))) (sz := sz) (es := es ++ es2) (t := .own l) (b := w.heap.size) (cap := grownCap w (es.length + es2.length) cap e) (c := row)
      (fun e he => (List.mem_append.1 he).elim (hO.2.1 e) (hN.2.1 e)) (by simp; exact hcapge) (fun o ho => hcells o (by simpa using ho)) (get_append2 hO' hN' row1 row2)
      ⟨some w.heap.size, grownCap w (es.length + es2.length) cap e, es.length + es2.length, by rw [List.getElem?_set_self (by
        rcases Nat.lt_or_ge l G.B.length with h | h
        · exact h
        · simp [List.getElem?_eq_none h] at hgl)], by simp, fun _ => ⟨rfl, rfl⟩⟩
    simpa using this
  cases h1 with
  | slz sz t ht =>
    obtain ⟨ob, cp, nf, ht1, ht2, ht3⟩ := ht
    rw [hgl] at ht1; simp at ht1; subst ht1
    cases hobj with
    | own b cap sz n' c T' fr hb hf hlc hn hm =>
      -- an array that is not nil, at length 0, and a nil slice: they do not go together
      exact absurd (ht3 rfl).1 (by simp)
    | ownz sz =>
      by_cases hz : es2.length = 0
      · have hes2 : es2 = [] := List.eq_nil_of_length_eq_zero hz
        subst hes2
        have hnews : news = [] := List.eq_nil_of_length_eq_zero (by simpa using hNs)
        have hrun : (Builtin.append_ #[t, tx] o.type #[.slice none 0 0, a.eval x]).run P w = .ok (.slice none 0 0) w := by
          have hcc := hS'.cells
          have hll := hS'.len
          simp only [List.length_nil] at hcc hll
          rcases hS.kind with ⟨e', hk'⟩ | hk' <;> simp [Builtin.append_, run_underlying hund, run_underlying hk', sizeOf, typeInfo, hi1, hll, hcc]
        have hrun2 : (execOp a.eval o).run P w = .ok (.value (.slice none 0 0)) w := by simp [execOp, ho, resolve, invoke, builtin, hA, hrun]
        unfold OWP
        rw [hrun2]
        refine ⟨_, _, G, hk, Gh.Le.refl G, ?_⟩
        rw [hd]
        have hset : σ.set l (.own sz (([] : List (List AV)).length + ([] : List (List AV)).length)) = σ := by
          apply List.ext_getElem?
          intro j
          by_cases hj : l = j
          · subst hj
            have : l < σ.length := by
              rcases Nat.lt_or_ge l σ.length with h | h
              · exact h
              · simp [List.getElem?_eq_none h] at hσ
            rw [List.getElem?_set_self this, hσ]; rfl
          · rw [List.getElem?_set_ne hj]
        rw [hset]
        exact hr.put hdn (.slz sz (.own l) ⟨none, 0, 0, hgl, Nat.le_refl _, fun _ => ⟨rfl, rfl⟩⟩)
      · exact grow none 0 [] hA ⟨by simp, by simp, fun i j e a h => by simp at h⟩ rfl (by simpa using Nat.pos_of_ne_zero hz) (.inr ⟨_, _, _, rfl, by simpa using Nat.pos_of_ne_zero hz⟩)
  | sl _ _ _ b off cap f hz hm hr' hc ht =>
    obtain ⟨ob, cp, nf, ht1, ht2, ht3⟩ := ht
    rw [hgl] at ht1; simp at ht1; subst ht1
    obtain ⟨rfl, ⟨rfl, rfl, h0⟩ | ⟨b', c, T', fr, rfl, hb, hf, hlc, hn, hmn⟩⟩ := hobj.own_inv
    · exact absurd (ht3 rfl).1 (by simp)
    · obtain ⟨q1, q2⟩ := ht3 rfl
      simp at q1
      obtain ⟨rfl, rfl⟩ := q1
      subst q2
      obtain ⟨oldc, hO1, hO2⟩ := run_first (P := P) hr.st.memok (VRel.sl (B := G.B) sz es .no b 0 cap f hz hm hr' hc trivial)
      obtain ⟨oldc', hO1', hO2'⟩ := run_first (P := P) (w := w.drew) ⟨hr.st.memok.1, hr.st.memok.2, hr.st.memok.g⟩ (VRel.sl (B := G.B) sz es .no b 0 cap f hz hm hr' hc trivial)
      by_cases hroom : es.length + es2.length ≤ cap
      · -- there is room
        have hcs : (es.length + es2.length) * sz ≤ c.size := by rw [hlc]; exact Nat.mul_le_mul_right _ hroom
        rw [Nat.add_mul] at hcs
        obtain ⟨w', c', r1, r2, r3, r4, r5, r6, rout⟩ := run_storeCells (P := P) (b := b) (off := es.length * sz) (T := T') (fr := fr) news 0 c w hb hf hS.one (by omega)
        have hrun := run_append_room' (P := P) w w' t tx o.type e i hund hi1 b 0 es.length cap (a.eval x) es2.length news hS' hroom (by rw [hi2, hsz, Nat.zero_add]; exact r1)
        have hrun2 : (execOp a.eval o).run P w = .ok (.value (.slice (some ⟨b, 0, none⟩) (es.length + es2.length) cap)) w' := by simp [execOp, ho, resolve, invoke, builtin, hA, hrun]
        unfold OWP
        rw [hrun2]
        simp only [Nat.add_zero] at r6
        let M' : Mem := { G.M with cell := fun b2 o => if b2 = b then (if o < (es.length + es2.length) * sz then some (c'.getD o undef) else none) else G.M.cell b2 o }
        have hold : ∀ o v, G.M.cell b o = some v → o < es.length * sz ∧ c'.getD o undef = v := by
          intro o v hv
          have hlt : o < es.length * sz := by
            rcases Nat.lt_or_ge o (es.length * sz) with h | h
            · exact h
            · rw [hmn o h] at hv; cases hv
          refine ⟨hlt, ?_⟩
          rw [r6 o, if_neg (by omega)]
          have h2 := hr.st.memok.1 _ _ _ hv
          simp only [World.cell?, hb] at h2
          simp at h2
          simp [h2]
        have hle : G.M.Le M' := ⟨fun b2 o v hv => by
          show (if b2 = b then _ else _) = _
          split
          · rename_i e2; subst e2
            obtain ⟨g1, g2⟩ := hold o v hv
            rw [if_pos (by rw [Nat.add_mul]; omega), g2]
          · exact hv, fun _ _ h => h⟩
        have hmapb : G.M.map b = none := mem_of_notmap hr.st.memok hb (by intros; simp)
        have hok : MemOk M' w' := by
          refine ⟨fun b2 o v hv => ?_, fun b2 es' hb2' => ?_, hr.st.memok.g.mono hle⟩
          · change (if b2 = b then _ else _) = _ at hv
            split at hv
            · rename_i e2; subst e2
              split at hv
              · rename_i ho2
                rw [Nat.add_mul] at ho2
                have hlt2 : o < c'.size := by rw [r5]; omega
                simp at hv
                simp only [World.cell?, r4]
                simp [hlt2, ← hv]
              · simp at hv
            · rename_i e2
              have h2 := hr.st.memok.1 _ _ _ hv
              simp only [World.cell?] at h2 ⊢
              rw [r3 _ e2]; exact h2
          · have hne : b2 ≠ b := fun e2 => by subst e2; rw [show M'.map b2 = G.M.map b2 from rfl, hmapb] at hb2'; cases hb2'
            obtain ⟨cl, h2⟩ := hr.st.memok.2 _ _ hb2'
            exact ⟨cl, by rw [r3 _ hne]; exact h2⟩
        have hgle : (GB.own (some b) cap es.length).Le (.own (some b) cap (es.length + es2.length)) := by
          by_cases hz2 : es2.length = 0
          · rw [hz2]; exact .inl rfl
          · exact .inr ⟨_, _, _, rfl, by omega⟩
        have hblt := (hr.st.fresh l _ b hgl rfl).2
        have hs2 : SRel { G with M := M', B := G.B.set l (.own (some b) cap (es.length + es2.length)) } (σ.set l (.own sz (es.length + es2.length))) w' := by
          refine hr.st.regrow hgl hle hgle rfl (by omega) (fun k hk _ => r3 k hk) rfl (fun b2 hb2' o => if_neg hb2') hok (.inl rfl) (by omega) rout ?_
          exact .own b cap sz _ c' T' fr r4 (by rw [r5]; exact hf) (by rw [r5, hlc]) hroom fun o ho2 => by
            show (if b = b then _ else _) = _
            rw [if_pos rfl, if_neg (by omega)]
        have hG : G.Le { G with M := M', B := G.B.set l (.own (some b) cap (es.length + es2.length)) } := .up hle (BLe.set hgl hgle)
        refine ⟨_, _, _, hk, hG, ?_⟩
        rw [hd]
        have hr2 : ARel n { G with M := M', B := G.B.set l (.own (some b) cap (es.length + es2.length)) } env (σ.set l (.own sz (es.length + es2.length))) a w' := ⟨hr.size, hr.defers, fun i => (hr.vals i).mono hle (BLe.set hgl hgle), hs2⟩
        refine hr2.put hdn ?_
        have hOc : AppRel M' sz es oldc := ⟨hO2.1, hO2.2.1, fun i j e a x y => (hO2.2.2 i j e a x y).mono hle (BLe.refl _)⟩
        have hN' : AppRel M' sz es2 news.toArray := ⟨hN.1, hN.2.1, fun i j e a x y => (hN.2.2 i j e a x y).mono hle (BLe.refl _)⟩
        -- the old cells
        have hoc : ∀ o, o < es.length * sz → c'.getD o undef = oldc.getD o undef := by
          intro o ho2
          obtain ⟨g1, g2, g3⟩ := range_div ho2
          have hcell := hm _ _ g1 g2
          rw [Nat.zero_add, ← g3] at hcell
          rw [(hold o _ hcell).2]
          have l1 := run_loadCells (P := P) w ⟨b, 0, none⟩ (es.length * sz) (fun k => f (k / sz) (k % sz)) (fun k hk => by
            obtain ⟨g1, g2, g3⟩ := range_div hk
            rw [addr_add, show 0 + k = 0 + k / sz * sz + k % sz by omega]; exact hr.st.memok.1 _ _ _ (hm _ _ g1 g2))
          simp only [Builtin.firstCells] at hO1
          rw [l1] at hO1
          simp at hO1
          rw [← hO1]
          simp [ho2]
        have hnc : ∀ o, o < es2.length * sz → c'.getD (es.length * sz + o) undef = news.toArray.getD o undef := by
          intro o ho2
          rw [r6, if_pos (by omega), Nat.add_sub_cancel_left]
          simp [List.getD]
        have := vrel_row (M := M') (B := G.B.set l (.own (some b) cap (es.length + es2.length))) (sz := sz) (es := es ++ es2) (t := .own l) (b := b) (cap := cap) (c := c')
          (fun e he => (List.mem_append.1 he).elim (hO2.2.1 e) (hN.2.1 e)) (by simpa using hroom) (fun o ho2 => by
            show (if b = b then _ else _) = _
            rw [if_pos rfl, if_pos (by simpa using ho2)]) (get_append2 hOc hN' hoc hnc)
          ⟨some b, cap, es.length + es2.length, by rw [List.getElem?_set_self (by
            rcases Nat.lt_or_ge l G.B.length with h | h
            · exact h
            · simp [List.getElem?_eq_none h] at hgl)], by simp, fun _ => ⟨rfl, rfl⟩⟩
        simpa using this
      · refine grow _ cap oldc'.toList hA (by simpa using hO2') (by rw [hi2, hsz]; simpa using hO1') (by omega) (.inr ⟨_, _, _, rfl, by omega⟩)
end
end Go.Ab
/- Loops by lists of slots; growing arrays that begin as nil. -/
namespace Go.Ab

def WeakL (env : Env) : List (Nat × AV) → Prop
  | [] => True
  | (i, v) :: r => env i = v ∧ WeakL env r
theorem WeakL.mem {env : Env} : ∀ {l : List (Nat × AV)}, WeakL env l → ∀ p ∈ l, env p.1 = p.2
  | _ :: _, h, p, hp => by
    rcases List.mem_cons.1 hp with rfl | hp
    · exact h.1
    · exact WeakL.mem h.2 p hp
theorem WeakL.weak {env : Env} {l : List (Nat × AV)} (h : WeakL env l) : env.Weak (Env.of l) := by
  intro M B i x hx
  unfold Env.of
  cases hf : l.find? (fun p => p.1 == i) with
  | none => exact .any _
  | some p =>
    have h1 := List.find?_some hf
    simp at h1
    have := h.mem p (List.mem_of_find?_eq_some hf)
    rw [h1] at this
    simp only
    rw [← this]; exact hx

section
variable {P : Program} {n : Nat} {K : Exit → Env → Store → Prop} {env : Env} {σ : Store}

/-- A loop, by the slots that count at its head. -/
theorem AWP.loopW {c : Code} {ι : Type} (E : ι → List (Nat × AV)) (S : ι → Store) (inv : ι → Prop) (μ : ι → Nat) (i0 : ι) (h0 : inv i0) (hE : WeakL env (E i0)) (hS : σ = S i0)
    (round : ∀ i, inv i → AWP P n c (thenK (fun e s => ∃ j, inv j ∧ μ j < μ i ∧ WeakL e (E j) ∧ s = S j) K) (Env.of (E i)) (S i)) : AWP P n (.loop c) K env σ := by
  refine AWP.loop (fun i => Env.of (E i)) S inv μ i0 h0 hE.weak hS fun i hi => ?_
  refine AWP.mono (round i hi) ?_
  intro x e s h
  cases x with
  | normal => obtain ⟨j, h1, h2, h3, h4⟩ := h; exact ⟨j, h1, h2, h3.weak, h4⟩
  | _ => exact h

/-- Only these slots count from here on. -/
theorem AWP.keep {c : Code} (l : List (Nat × AV)) (h : WeakL env l) (hk : AWP P n c K (Env.of l) σ) : AWP P n c K env σ := AWP.weaken h.weak hk

/-- A nil slice, as a growing array of the call's own. -/
theorem AWP.ownNil {c : Code} {d sz : Nat} (hd : env d = .nils) (hk : AWP P n c K (env.put d (.sl sz [] (.own σ.length))) (σ ++ [.own sz 0])) : AWP P n c K env σ := by
  intro G a w hr
  have hs : SRel { G with B := G.B ++ [.own none 0 0] } (σ ++ [.own sz 0]) w := by
    have hb : BLe G.B (G.B ++ [.own none 0 0]) := BLe.append _ _
    have new : ∀ (l : Nat) (g : GB), (G.B ++ [GB.own none 0 0])[l]? = some g → l < G.B.length ∧ G.B[l]? = some g ∨ l = G.B.length ∧ g = .own none 0 0 := by
      intro l g h
      rcases Nat.lt_or_ge l G.B.length with hlt | hge
      · rw [List.getElem?_append_left hlt] at h; exact .inl ⟨hlt, h⟩
      · rw [List.getElem?_append_right hge] at h
        have hz : l - G.B.length = 0 := by
          rcases Nat.eq_zero_or_pos (l - G.B.length) with hz | hp
          · exact hz
          · rw [List.getElem?_eq_none (by simp; omega)] at h; simp at h
        rw [hz] at h; simp at h
        exact .inr ⟨by omega, h.symm⟩
    refine ⟨hr.st.memok, hr.st.m0, hr.st.base, by simp [hr.st.len], fun l g o h1 h2 => ?_, fun l g b h1 h2 => ?_, fun l l' g g' b h1 h2 h3 h4 => ?_, hr.st.out, ⟨fun p hp => ?_, hr.st.dfr.2⟩⟩
    · rcases new l g h1 with ⟨hlt, h1⟩ | ⟨rfl, rfl⟩
      · rw [List.getElem?_append_left (by rw [← hr.st.len]; exact hlt)] at h2
        exact (hr.st.objs l g o h1 h2).keep hb fun b _ => rfl
      · rw [List.getElem?_append_right (by rw [← hr.st.len]; exact Nat.le_refl _)] at h2
        simp [hr.st.len] at h2; subst h2
        exact .ownz sz
    · rcases new l g h1 with ⟨_, h1⟩ | ⟨_, rfl⟩
      · exact hr.st.fresh l g b h1 h2
      · simp [GB.block] at h2
    · rcases new l g h1 with ⟨_, h1⟩ | ⟨_, rfl⟩
      · rcases new l' g' h2 with ⟨_, h2⟩ | ⟨_, rfl⟩
        · exact hr.st.inj l l' g g' b h1 h2 h3 h4
        · simp [GB.block] at h4
      · simp [GB.block] at h3
    · obtain ⟨k1, k2, k3, k4⟩ := hr.st.dfr.1 p hp
      refine ⟨k1, k2, fun l g h1 e => ?_, k4⟩
      rcases new l g h1 with ⟨_, h1⟩ | ⟨_, rfl⟩
      · exact k3 l g h1 e
      · simp [GB.block] at e
  have hr' : ARel n { G with B := G.B ++ [.own none 0 0] } (env.put d (.sl sz [] (.own σ.length))) (σ ++ [.own sz 0]) a w := by
    refine ⟨hr.size, hr.defers, fun i => ?_, hs⟩
    simp only [Env.put]
    split
    · rename_i e; subst e
      have := hr.vals i
      rw [hd] at this
      cases hx : a.tmps.getD i undef <;> rw [hx] at this <;> cases this
      exact .slz sz _ ⟨none, 0, 0, by simp [← hr.st.len], Nat.le_refl _, fun _ => ⟨rfl, rfl⟩⟩
    · exact (hr.vals i).mono (Mem.Le.refl _) (BLe.append _ _)
  refine wpIn_mono (hk { G with B := G.B ++ [GB.own none 0 0] } a w hr') ?_
  rintro x a' w' ⟨e, s, G', h1, h2, h3⟩
  exact ⟨e, s, G', h1, Gh.Le.trans (G' := { G with B := G.B ++ [.own none 0 0] }) (.upB (BLe.append _ _)) h2, h3⟩
end

/-! ### Plain words on lists -/
def inB (n lo hi : Int) : Bool := decide (lo ≤ n) && decide (n ≤ hi)
/-- The first index at which p holds, or -1. -/
def findI {α : Type} (p : α → Bool) (l : List α) : Int := match l.findIdx? p with
  | some i => (i : Int)
  | none => -1
theorem getD_lt {α : Type} [Inhabited α] {l : List α} {k : Nat} (h : k < l.length) : l.getD k default = l[k] := by simp [List.getD, h]
theorem findI_at {α : Type} [Inhabited α] {p : α → Bool} {l : List α} {k : Nat} (hk : k < l.length) (h : p (l.getD k default) = true) (hall : ∀ j, j < k → p (l.getD j default) = false) : findI p l = k := by
  unfold findI
  have : l.findIdx? p = some k := by
    rw [List.findIdx?_eq_some_iff_getElem]
    refine ⟨hk, by rw [← getD_lt hk]; exact h, fun j hj => ?_⟩
    have := hall j hj
    rw [getD_lt (by omega)] at this
    simpa using this
  rw [this]
theorem findI_no {α : Type} [Inhabited α] {p : α → Bool} {l : List α} (hall : ∀ j, j < l.length → p (l.getD j default) = false) : findI p l = -1 := by
  unfold findI
  have : l.findIdx? p = none := by
    rw [List.findIdx?_eq_none_iff]
    intro x hx
    obtain ⟨j, hj, rfl⟩ := List.mem_iff_getElem.1 hx
    have := hall j hj
    rwa [getD_lt hj] at this
  rw [this]
theorem findI_neg {α : Type} {p : α → Bool} {l : List α} : findI p l < 0 ↔ findI p l = -1 := by
  unfold findI; split <;> omega
theorem findI_lt {α : Type} [Inhabited α] {p : α → Bool} {l : List α} (h : 0 ≤ findI p l) : ∃ k : Nat, findI p l = k ∧ k < l.length ∧ p (l.getD k default) = true ∧ ∀ j, j < k → p (l.getD j default) = false := by
  unfold findI at h ⊢
  cases hf : l.findIdx? p with
  | none => rw [hf] at h; simp at h
  | some i =>
    obtain ⟨h1, h2, h3⟩ := List.findIdx?_eq_some_iff_getElem.1 hf
    refine ⟨i, rfl, h1, by rw [getD_lt h1]; exact h2, fun j hj => ?_⟩
    rw [getD_lt (by omega)]; simpa using h3 j hj
theorem all_no {α : Type} [Inhabited α] {p : α → Bool} {l : List α} {k : Nat} (hk : k < l.length) (h : p (l.getD k default) = false) : l.all p = false := by
  rw [List.all_eq_false]
  exact ⟨l[k], List.getElem_mem hk, by rw [getD_lt hk] at h; simp [h]⟩
theorem all_yes {α : Type} [Inhabited α] {p : α → Bool} {l : List α} (h : ∀ j, j < l.length → p (l.getD j default) = true) : l.all p = true := by
  rw [List.all_eq_true]
  intro x hx
  obtain ⟨j, hj, rfl⟩ := List.mem_iff_getElem.1 hx
  have := h j hj
  rwa [getD_lt hj] at this
theorem allR_no {p : Nat → Bool} {n k : Nat} (hk : k < n) (h : p k = false) : (List.range n).all p = false := by
  rw [List.all_eq_false]; exact ⟨k, List.mem_range.2 hk, by simp [h]⟩
theorem allR_yes {p : Nat → Bool} {n : Nat} (h : ∀ j, j < n → p j = true) : (List.range n).all p = true := by
  rw [List.all_eq_true]; intro x hx; exact h x (List.mem_range.1 hx)
theorem lt_succ_cases {P : Nat → Prop} {k j : Nat} (h : ∀ j, j < k → P j) (hk : P k) (hj : j < k + 1) : P j := by
  rcases Nat.lt_or_ge j k with h1 | h1
  · exact h j h1
  · have : j = k := by omega
    subst this; exact hk
end Go.Ab
/- Function values that are handed in. -/
namespace Go.Ab

def Env.initX (ks : List Nat) (avs : List AV) : Env := fun i => if ks.contains i then .ext (avs.getD i .any) else avs.getD i .any

theorem PCall.bodyX {P : Program} {f : FuncId} {fn : Func} {c : Code} {n : Nat} {avs : List AV} {r : AV} (ks : List Nat) (hf : P.funcs[f]? = some fn) (hb : fn.body = some c) (hnm : (fn.name == "runtime.NumGoroutine") = false)
    (hn : fn.ntmps = n) (hle' : decide (avs.length ≤ n) = true) (hres : allTmp fn.results.toList = true) (h : AWP P n c (retK fn.results.toList r) (Env.initX ks avs) []) : PCall P f avs r := by
  refine PCall.body hf hb hnm hn hle' hres ?_
  intro G a w hr
  -- at the beginning the call has no objects of its own
  have hB : G.B = [] := List.length_eq_zero_iff.1 hr.st.len
  refine h G a w ⟨hr.size, hr.defers, fun i => ?_, hr.st⟩
  have h1 := hr.vals i
  simp only [Env.initX, Env.init] at h1 ⊢
  split
  · rw [hB] at h1; exact .ext _ _ h1
  · exact h1

section
variable {P : Program} {o : Oper} {env : Env} {σ : Store}
/-- A call of a function value that was handed in. -/
theorem PRun.callV {fo : Operand} {args : Array Operand} {Ts : Array TypeId} {fv : AV} {avs : List AV} {r : AV} (h : FnCall P fv avs r)
    (ho : o.op = .call { callee := .value fo, args := args, argTypes := Ts }) (hf : rdv env fo = some (.ext fv)) (nf : rdn env fo)
    (ha : (args.toList.map fun x => unb 4 (envOp env x).st) = avs) (hn : rdns env args.toList) : PRun P o env σ r := by
  obtain ⟨k, first, caps, rfl, hc⟩ := h
  intro G a w hs hv
  have h1 := rd (Rd.w hf nf) (by simp [ho, Op.operands, Call.operands]) hv
  generalize hA : a.eval fo = y at h1
  cases h1 with
  | ext _ _ h1 =>
  cases h1 with
  | fn _ _ _ vf vc hvf hvc h2 h3 =>
    have hrun : (execOp a.eval o).run P w = .ok (.enter k (vf ++ args.map a.eval ++ vc)) w := by
      simp only [execOp, ho, resolve, hA, Deferred.ofValue, Sem.run_bind, Sem.run_pure, Result.andThen_ok, invoke]
      exact run_callFunc hc.1 _ w
    unfold OWP
    rw [hrun]
    simp only [uponQ]
    have hargs : ArgsRel G.M (first ++ avs ++ caps) (vf ++ args.map a.eval ++ vc) := by
      subst ha
      have hl := hvf
      have hl2 := hvc
      refine ⟨by simp [hl, hl2], fun i c hi => ?_⟩
      simp only [List.append_assoc] at hi
      rcases Nat.lt_or_ge i vf.size with hlt | hge
      · rw [List.getElem?_append_left (by simpa [← hl] using hlt)] at hi
        have := h2 i c hi
        have e : (vf ++ args.map a.eval ++ vc).getD i undef = vf.getD i undef := by
          simp only [Array.getD_eq_getD_getElem?]
          rw [Array.append_assoc, Array.getElem?_append_left hlt]
        rw [e]; exact this
      · rw [List.getElem?_append_right (by simpa [← hl] using hge)] at hi
        simp only [← hl] at hi
        rcases Nat.lt_or_ge (i - vf.size) args.size with hlt2 | hge2
        · rw [List.getElem?_append_left (by simpa using hlt2)] at hi
          simp only [List.getElem?_map, Option.map_eq_some_iff] at hi
          obtain ⟨x, hx, rfl⟩ := hi
          have hxm : x ∈ args.toList := List.mem_of_getElem? hx
          have := rd ((rdns_needs hn).rd x hxm) (by simp [ho, Op.operands, Call.operands]; right; simpa using hxm) hv
          have e : (vf ++ args.map a.eval ++ vc).getD i undef = a.eval x := by
            simp only [Array.getD_eq_getD_getElem?]
            rw [Array.append_assoc, Array.getElem?_append_right hge, Array.getElem?_append_left (by simpa using hlt2)]
            simp only [Array.getElem?_toList] at hx
            simp [hx]
          rw [e]; exact unb_rel 4 _ _ this
        · rw [List.getElem?_append_right (by simpa using hge2)] at hi
          simp only [List.length_map, Array.length_toList] at hi
          have := h3 _ c hi
          have e : (vf ++ args.map a.eval ++ vc).getD i undef = vc.getD (i - vf.size - args.size) undef := by
            simp only [Array.getD_eq_getD_getElem?]
            rw [Array.append_assoc, Array.getElem?_append_right hge, Array.getElem?_append_right (by simpa using hge2)]
            simp
          rw [e]; exact this
    refine (hc.2 G.M w _ hs.memok hargs).mono ?_
    rintro e w' ⟨v, M', rfl, hr, hp⟩
    exact ⟨v, { G with M := M' }, rfl, hr.mono (Mem.Le.refl _) (BLe.nil _), .upM hp.le, hs.after hp⟩
end
end Go.Ab
/- Objects that a round makes and leaves behind. -/
namespace Go.Ab

/-- Names no object from m on. -/
def okRef (m : Nat) : Nat → AV → Bool
  | 0, _ => false
  | k + 1, v => match v with
    | .any | .prim _ | .nils | .imap _ | .iptr _ | .ext _ => true
    | .sl _ _ (.own l) => decide (l < m)
    | .sl _ _ _ => true
    | .sla l _ _ _ _ => decide (l < m)
    | .eptr l _ _ _ _ => decide (l < m)
    | .yld l => decide (l < m)
    | .opq v => okRef m k v
    | .ptr l _ => decide (l < m)
    | .map l => decide (l < m)
    | .agg cs => cs.all (okRef m k)
    | .tup cs => cs.all (okRef m k)
    | .fn _ a c => a.all (okRef m k) && c.all (okRef m k)
    | .when _ v => okRef m k v
def okObj (m : Nat) : AObj → Bool
  | .var cs => cs.all (okRef m 3)
  | .map kvs => kvs.all fun kv => okRef m 3 kv.2
  | .arr _ _ es => es.all fun e => e.all (okRef m 3)
  | .loop _ E => E.all fun p => okRef m 4 p.2
  | _ => true

theorem take_get {B : List GB} {m l : Nat} {g : GB} (h : B[l]? = some g) (hl : l < m) : (B.take m)[l]? = some g := by
  rw [List.getElem?_take, if_pos hl]; exact h

theorem VRel.take {M : Mem} {B : List GB} {m : Nat} : ∀ (k : Nat) (v : AV) (x : Value), okRef m k v = true → VRel M B v x → VRel M (B.take m) v x
  | 0, _, _, h, _ => by simp [okRef] at h
  | k + 1, v, x, h, hv => by
    have tok : ∀ {t : Tok} {a : Option (Nat × Nat)} {len cap : Nat}, (∀ l, t = .own l → l < m) → TokOk B t a len cap → TokOk (B.take m) t a len cap := by
      intro t a len cap hl ht
      cases t with
      | no => trivial
      | fresh => exact ht
      | own l =>
        obtain ⟨ob, cp, n, h1, h2, h3⟩ := ht
        exact ⟨ob, cp, n, take_get h1 (hl l rfl), h2, h3⟩
    have lst : ∀ (cs : List AV) (vs : Array Value), cs.all (okRef m k) = true → (∀ (i : Nat) (c : AV), cs[i]? = some c → VRel M B c (vs.getD i undef)) → ∀ (i : Nat) (c : AV), cs[i]? = some c → VRel M (B.take m) c (vs.getD i undef) :=
      fun cs vs ha hr i c hi => VRel.take k c _ (List.all_eq_true.1 ha c (List.mem_of_getElem? hi)) (hr i c hi)
    cases hv with
    | any => exact .any _
    | prim => exact .prim _
    | agg cs vs hl hr => exact .agg _ _ hl (lst _ _ (by simpa [okRef] using h) hr)
    | tup cs vs hl hr => exact .tup _ _ hl (lst _ _ (by simpa [okRef] using h) hr)
    | nils => exact .nils
    | sl sz es t b off cap f hz hm hr hc ht => exact .sl sz es t b off cap f hz hm hr hc (tok (fun l e => by subst e; simpa [okRef] using h) ht)
    | slz sz t ht => exact .slz sz t (tok (fun l e => by subst e; simpa [okRef] using h) ht)
    | slzz sz a cap => exact .slzz sz a cap
    | sla l sz off len ver a c hb => obtain ⟨ob, cp, n, h1, h2⟩ := hb; exact .sla l sz off len ver a c ⟨ob, cp, n, take_get h1 (by simpa [okRef] using h), h2⟩
    | eptr l sz i o ver b x hb => obtain ⟨ob, cp, n, h1, h2⟩ := hb; exact .eptr l sz i o ver b x ⟨ob, cp, n, take_get h1 (by simpa [okRef] using h), h2⟩
    | yld l b hb => exact .yld l b (take_get hb (by simpa [okRef] using h))
    | opq v f a b hv => exact .opq v f a b (VRel.take k v _ (by simpa [okRef] using h) hv)
    | ptr l off b hb => exact .ptr l off b (take_get hb (by simpa [okRef] using h))
    | iptr cs b off f hm hr => exact .iptr cs b off f hm hr
    | fn f first caps vf vc hf hc h1 h2 =>
      simp only [okRef, Bool.and_eq_true] at h
      exact .fn f first caps vf vc hf hc (lst _ _ h.1 h1) (lst _ _ h.2 h2)
    | map l b hb => exact .map l b (take_get hb (by simpa [okRef] using h))
    | imap kvs b es hm hl hk hr => exact .imap kvs b es hm hl hk hr
    | imapz => exact .imapz
    | when g v x h1 h2 => exact .when g v x (fun hg => VRel.take k v x (by simpa [okRef] using h) (h1 hg)) h2
    | ext v x h => exact .ext v x h

theorem ofE_ok {m : Nat} {l : List (Nat × AV)} (h : l.all (fun p => okRef m 4 p.2) = true) (i : Nat) : okRef m 4 (Env.of l i) = true := by
  unfold Env.of
  cases hf : l.find? (fun p => p.1 == i) with
  | none => rfl
  | some p => exact List.all_eq_true.1 h p (List.mem_of_find?_eq_some hf)

theorem SRel.take {G : Gh} {σ : Store} {w : World} (h : SRel G σ w) (m : Nat) (ho : (σ.take m).all (okObj m) = true) : SRel { G with B := G.B.take m } (σ.take m) w := by
  have sub : ∀ (l : Nat) (g : GB), (G.B.take m)[l]? = some g → G.B[l]? = some g := fun l g hl => by
    rw [List.getElem?_take] at hl; split at hl
    · exact hl
    · simp at hl
  have sub2 : ∀ (l : Nat) (o : AObj), (σ.take m)[l]? = some o → σ[l]? = some o := fun l g hl => by
    rw [List.getElem?_take] at hl; split at hl
    · exact hl
    · simp at hl
  refine ⟨h.memok, h.m0, h.base, by simp [h.len], fun l g o h1 h2 => ?_, fun l g b h1 h2 => h.fresh l g b (sub l g h1) h2, fun l l' g g' b h1 h2 h3 h4 => h.inj l l' g g' b (sub _ _ h1) (sub _ _ h2) h3 h4, h.out, ⟨fun p hp => let ⟨k1, k2, k3, k4⟩ := h.dfr.1 p hp; ⟨k1, k2, fun l g hl => k3 l g (sub l g hl), k4⟩, h.dfr.2⟩⟩
  have hok := List.all_eq_true.1 ho o (List.mem_of_getElem? h2)
  have := h.objs l g o (sub l g h1) (sub2 l o h2)
  cases this with
  | var b cs c T fr hb hf hl hr hm => exact .var b cs c T fr hb hf hl (fun i a hi => VRel.take 3 a _ (List.all_eq_true.1 (by simpa [okObj] using hok) a (List.mem_of_getElem? hi)) (hr i a hi)) hm
  | ownz sz => exact .ownz sz
  | own b cap sz n c T fr hb hf hl hn hm => exact .own b cap sz n c T fr hb hf hl hn hm
  | map b kvs es clock hb hl hk hr hm => exact .map b kvs es clock hb hl hk (fun i k v e x y => VRel.take 3 v _ (List.all_eq_true.1 (show kvs.all (fun kv => okRef m 3 kv.2) = true from hok) (k, v) (List.mem_of_getElem? x)) (hr i k v e x y)) hm
  | siter b s pos hb => exact .siter b s pos hb
  | loop b r E hb hv => exact .loop b r E hb fun i => VRel.take 4 _ _ (ofE_ok (by simpa [okObj] using hok) i) (hv i)
  | arrz sz ver => exact .arrz sz ver
  | arr b cap sz ver es c T fr hb hf hl hn hz hr hm => exact .arr b cap sz ver es c T fr hb hf hl hn hz (fun i j e a x y => VRel.take 3 a _ (List.all_eq_true.1 (List.all_eq_true.1 (show es.all (fun e => e.all (okRef m 3)) = true from hok) e (List.mem_of_getElem? x)) a (List.mem_of_getElem? y)) (hr i j e a x y)) hm
  | dead => exact .dead _

section
variable {P : Program} {n : Nat} {K : Exit → Env → Store → Prop} {env : Env} {σ : Store}
/-- A loop whose rounds leave objects behind. -/
theorem AWP.loopD {c : Code} {ι : Type} (E : ι → List (Nat × AV)) (S : ι → Store) (inv : ι → Prop) (μ : ι → Nat) (m : Nat) (hS' : ∀ i, (S i).length = m) (i0 : ι) (h0 : inv i0) (hE : WeakL env (E i0)) (hS : σ = S i0)
    (hokE : ∀ i, inv i → (E i).all (fun p => okRef m 4 p.2) = true) (hokS : ∀ i, inv i → (S i).all (okObj m) = true)
    (round : ∀ i, inv i → AWP P n c (thenK (fun e s => ∃ j, inv j ∧ μ j < μ i ∧ WeakL e (E j) ∧ s.take m = S j) K) (Env.of (E i)) (S i)) : AWP P n (.loop c) K env σ := by
  subst hS
  intro G a w hr
  refine wpIn_loop_ghost (fun q a w => ∃ i G', μ i = q ∧ inv i ∧ G.Le G' ∧ G'.B.length = m ∧ ARel n G' (Env.of (E i)) (S i) a w) (μ i0) ⟨i0, G, rfl, h0, Gh.Le.refl G, by rw [hr.st.len, hS'], hr.weaken hE.weak⟩ ?_
  rintro q a w ⟨i, G', hm, hi, hg, hlen, hr⟩
  refine wpIn_mono (hg.r ▸ round i hi G' a w hr) ?_
  rintro x a' w' ⟨e, s, G'', h1, h2, h3⟩
  cases x with
  | normal =>
    obtain ⟨j, hj, hlt, hw, hs⟩ := h1
    have hrs := h3.weaken hw.weak
    have hst := h3.st.take m (by rw [hs]; exact hokS j hj)
    rw [hs] at hst
    have hr' : ARel n { G'' with B := G''.B.take m } (Env.of (E j)) (S j) a' w' := ⟨hrs.size, hrs.defers, fun i => VRel.take 4 _ _ (ofE_ok (hokE j hj) i) (hrs.vals i), hst⟩
    have hB : BLe G'.B (G''.B.take m) := fun l g hl => by
      obtain ⟨g', k1, k2⟩ := h2.b l g hl
      have : l < m := by
        rw [← hlen]
        rcases Nat.lt_or_ge l G'.B.length with h | h
        · exact h
        · simp [List.getElem?_eq_none h] at hl
      exact ⟨g', take_get k1 this, k2⟩
    exact ⟨μ j, hm ▸ hlt, j, { G'' with B := G''.B.take m }, rfl, hj, hg.trans ⟨h2.m0, h2.w0, h2.m, hB, h2.d, h2.r, h2.f⟩, by rw [hst.len, hS'], hr'⟩
  | _ => exact ⟨e, s, G'', h1, hg.trans h2, h3⟩
end
end Go.Ab
/- Runes of a string, in the walk's form. -/
namespace Go.Ab

theorem EStep.nextR {P : Program} {n : Nat} {ops : Array Oper} {o : Oper} {env : Env} {σ : Store} {k : Env → Store → Prop} {it : Operand} {d l pos : Nat} {s : ByteArray} {c wd : Nat} (hdec : Utf8.decode s pos = (c, wd)) (hp : pos < s.size) (ho : o.op = .next it true) (hg : o.guard = none) (hd : o.dst = some d) (hdn : decide (d < n) = true) (hx : rdv env it = some (.ptr l 0)) (nx : rdn env it)
    (hσ : σ[l]? = some (.siter s pos)) (hk : k (env.put d (.tup [.b true, .int pos, .prim (.int .i32 c)])) (σ.set l (.siter s (pos + wd)))) : EStep P n ops o k env σ :=
  EStep.nextS ho hg hd hdn hx nx hσ hp (by rw [hdec]; exact hk)

set_option maxRecDepth 8000 in
theorem decLow {s : ByteArray} {i : Nat} (hi : i < s.size) (h : (s.data.toList.getD i 0).toNat < 128) : Utf8.decode s i = ((s.data.toList.getD i 0).toNat, 1) := by
  have e : (s.get! i).toNat = (s.data.toList.getD i 0).toNat := by
    have hi' : i < s.data.size := hi
    rw [List.getD_eq_getElem?_getD, Array.getElem?_toList, Array.getElem?_eq_getElem hi']
    have e2 : s.get! i = s.data[i]'hi' := by
      cases s with
      | mk d => show d[i]! = d[i]'hi'; rw [Array.getElem!_eq_getD, Array.getD_eq_getD_getElem?, Array.getElem?_eq_getElem hi']; rfl
    rw [e2]; rfl
  unfold Utf8.decode
  simp only [Nat.add_zero]
  have hc : (s.get! i).toNat < 0x80 := by rw [e]; exact h
  rw [if_pos hc, e]
set_option maxRecDepth 8000 in
theorem decHigh {s : ByteArray} {i : Nat} (hi : i < s.size) (h : 128 ≤ (s.data.toList.getD i 0).toNat) : 128 ≤ (Utf8.decode s i).1 := by
  have e : (s.get! i).toNat = (s.data.toList.getD i 0).toNat := by
    have hi' : i < s.data.size := hi
    rw [List.getD_eq_getElem?_getD, Array.getElem?_toList, Array.getElem?_eq_getElem hi']
    have e2 : s.get! i = s.data[i]'hi' := by
      cases s with
      | mk d => show d[i]! = d[i]'hi'; rw [Array.getElem!_eq_getD, Array.getD_eq_getD_getElem?, Array.getElem?_eq_getElem hi']; rfl
    rw [e2]; rfl
  unfold Utf8.decode
  simp only [Nat.add_zero]
  have hc : ¬ (s.get! i).toNat < 0x80 := by rw [e]; exact Nat.not_lt.2 h
  rw [if_neg hc]
  simp only [Utf8.runeError]
  split
  · split
    · rename_i h1; exact h1
    · show 128 ≤ 65533; omega
  · split
    · split
      · rename_i h1; simp only [ge_iff_le, Bool.and_eq_true, decide_eq_true_eq] at h1; show 128 ≤ _; exact Nat.le_trans (by omega) h1.1
      · show 128 ≤ 65533; omega
    · split
      · split
        · rename_i h1; simp only [ge_iff_le, Bool.and_eq_true, decide_eq_true_eq] at h1; show 128 ≤ _; exact Nat.le_trans (by omega) h1.1
        · show 128 ≤ 65533; omega
      · show 128 ≤ 65533; omega
end Go.Ab
/- Results that lie in a variable; structs that are compared; structs and slices that are built, in the walk's form. -/
namespace Go.Ab

/-! ### Results that lie in a variable -/
def rvA (T : Tab) (e : Env) (s : Store) : ResultVar → Option AV
  | .tmp t => some (unb 4 (e t))
  | .cell a t => match e a with
    | .ptr l off => match s[l]?, T.get t with
      | some (.var cs), some li => (takeF li off cs).map (unb 4)
      | _, _ => none
    | _ => none
def rvsA (T : Tab) (e : Env) (s : Store) : List ResultVar → Option (List AV)
  | [] => some []
  | x :: r => match rvA T e s x, rvsA T e s r with
    | some u, some us => some (u :: us)
    | _, _ => none
def retS (T : Tab) (e : Env) (s : Store) : List ResultVar → Option AV
  | [x] => rvA T e s x
  | l => (rvsA T e s l).map .tup
def retKS (T : Tab) (rs : List ResultVar) (r : AV) : Exit → Env → Store → Prop := fun x e s => (x = .normal ∨ x = .ret) ∧ ∃ u, retS T e s rs = some u ∧ Ent u r

theorem loadVar_rel {P : Program} {G : Gh} {σ : Store} {w : World} (hs : SRel G σ w) {t : TypeId} {li : LI} (hl : LOk P t li) {l off : Nat} {cs : List AV} {u : AV} {x : Value} (hx : VRel G.M G.B (.ptr l off) x) (hσ : σ[l]? = some (.var cs)) (hu : takeF li off cs = some u) :
    ∃ a v, x = .pointer (some a) ∧ (loadVar t a).run P w = .ok v w ∧ VRel G.M G.B u v := by
  obtain ⟨hu1, hle⟩ := takeF_spec hu
  cases hx with
  | ptr _ _ b hb =>
    have := hs.objs l _ _ hb hσ
    cases this with
    | var _ _ c T' fr hbb hf hlen hr hm =>
      refine ⟨_, if li.lt.isAgg then .agg ((List.range li.size).map fun j => c.getD (off + j) undef).toArray else c.getD off undef, rfl, ?_, ?_⟩
      · rw [run_loadVar hl w b off (fun j => c.getD (off + j) undef) (fun j hj => by
          have hlt : off + j < c.size := by omega
          simp [World.cell?, hbb, hlt])]
        rfl
      · rw [← hu1]
        unfold takeAV
        cases ha : li.lt.isAgg with
        | true =>
          simp only [ha, if_true] at hle ⊢
          refine .agg _ _ (by simp; omega) fun i c' hi => ?_
          rw [List.getElem?_take] at hi
          split at hi
          · rename_i hlt
            rw [List.getElem?_drop] at hi
            have := hr _ _ hi
            simpa [hlt] using this
          · simp at hi
        | false =>
          simp only [ha, Bool.false_eq_true, if_false] at hle ⊢
          have hlt : off < cs.length := by omega
          rw [List.drop_eq_getElem_cons hlt]
          exact hr off _ (List.getElem?_eq_getElem hlt)

theorem results_aux {P : Program} {T : Tab} (hT : T.Ok P) {e : Env} {s : Store} {G : Gh} {w : World} {tmps : Array Value} {u : AV} (hs : SRel G s w) (hv : ∀ i, VRel G.M G.B (e i) (tmps.getD i undef)) (f : ResultVar → Sem Value) (hf1 : ∀ t, f (.tmp t) = pure (tmps.getD t undef))
    (hf2 : ∀ a t, f (.cell a t) = (do loadVar t (← asAddr (tmps.getD a undef)))) (l : List ResultVar) (h : retS T e s l = some u) :
    ∃ v, (do let vs ← l.toArray.mapM f; pure (if h : vs.size = 1 then vs[0] else .tuple vs) : Sem Value).run P w = .ok v w ∧ VRel G.M [] u v := by
  have one : ∀ (f : ResultVar → Sem Value), (∀ t, f (.tmp t) = pure (tmps.getD t undef)) → (∀ a t, f (.cell a t) = (do loadVar t (← asAddr (tmps.getD a undef)))) → ∀ x u, rvA T e s x = some u → ∃ v, (f x).run P w = .ok v w ∧ VRel G.M [] u v := by
    intro f h1 h2 x u hx
    cases x with
    | tmp t =>
      simp only [rvA, Option.some.injEq] at hx
      subst hx
      exact ⟨_, by rw [h1]; rfl, unb_rel 4 _ _ (hv t)⟩
    | cell a t =>
      simp only [rvA] at hx
      have h3 := hv a
      cases hea : e a with
      | ptr l' off =>
        rw [hea] at hx h3
        simp only at hx
        split at hx
        · rename_i cs li hσ hg
          simp only [Option.map_eq_some_iff] at hx
          obtain ⟨u', hu', rfl⟩ := hx
          obtain ⟨ad, v, g1, g2, g3⟩ := loadVar_rel hs (LOk.of (hT.get hg)) h3 hσ hu'
          refine ⟨v, ?_, unb_rel 4 _ _ g3⟩
          rw [h2, g1, Sem.run_bind]
          exact g2
        · simp at hx
      | _ => rw [hea] at hx; simp at hx
  have key : ∀ (f : ResultVar → Sem Value), (∀ t, f (.tmp t) = pure (tmps.getD t undef)) → (∀ a t, f (.cell a t) = (do loadVar t (← asAddr (tmps.getD a undef)))) → ∀ l us, rvsA T e s l = some us → ∃ vs : List Value, Sem.run P (l.mapM f) w = Result.ok vs w ∧ vs.length = us.length ∧ us.length = l.length ∧ ∀ (i : Nat) u v, us[i]? = some u → vs[i]? = some v → VRel G.M [] u v := by
    intro f h1 h2 l
    induction l with
    | nil =>
      intro us hus
      simp only [rvsA, Option.some.injEq] at hus; subst hus
      exact ⟨[], rfl, rfl, rfl, fun i u v h => by simp at h⟩
    | cons x l ih =>
      intro us hus
      simp only [rvsA] at hus
      split at hus
      · rename_i u us' g1 g2
        simp only [Option.some.injEq] at hus; subst hus
        obtain ⟨v, g3, g4⟩ := one f h1 h2 x u g1
        obtain ⟨vs, g5, g6, g7, g8⟩ := ih us' g2
        refine ⟨v :: vs, ?_, by simp [g6], by simp [g7], fun i u' v' hu' hv' => ?_⟩
        · simp only [List.mapM_cons, Sem.run_bind, g3, Result.andThen_ok, g5]
          rfl
        · cases i with
          | zero => simp at hu' hv'; subst hu' hv'; exact g4
          | succ i => exact g8 i u' v' (by simpa using hu') (by simpa using hv')
      · simp at hus
  simp only [List.mapM_toArray, Sem.run_bind, Sem.run_map]
  match l, h with
  | [x], h =>
    simp only [retS] at h
    obtain ⟨vs, g5, g6, g7, g8⟩ := key f hf1 hf2 [x] [u] (by simp [rvsA, h])
    rw [g5]
    match vs, g6 with
    | [v], _ => exact ⟨v, rfl, g8 0 u v rfl rfl⟩
  | [], h =>
    simp only [retS, rvsA, Option.map_some, Option.some.injEq] at h; subst h
    exact ⟨.tuple #[], rfl, .tup _ _ rfl fun i c hi => by simp at hi⟩
  | x :: y :: r, h =>
    simp only [retS, Option.map_eq_some_iff] at h
    obtain ⟨us, hus, rfl⟩ := h
    obtain ⟨vs, g5, g6, g7, g8⟩ := key f hf1 hf2 _ us hus
    rw [g5]
    have hlen : vs.length = r.length + 2 := by rw [g6, g7]; rfl
    have hne : ¬ vs.toArray.size = 1 := by simp; omega
    refine ⟨.tuple vs.toArray, ?_, .tup _ _ (by simp [g6]) fun i c hi => ?_⟩
    · simp only [Result.andThen_ok, Sem.run_pure]
      rw [dif_neg hne]
    · have hlt : i < vs.length := by
        rw [g6]; rcases Nat.lt_or_ge i us.length with h | h
        · exact h
        · simp [List.getElem?_eq_none h] at hi
      have := g8 i c _ hi (List.getElem?_eq_getElem hlt)
      simpa [hlt] using this

theorem results_rel {P : Program} {T : Tab} (hT : T.Ok P) {fn : Func} {e : Env} {s : Store} {G : Gh} {w : World} {tmps : Array Value} {u : AV} (hs : SRel G s w) (hv : ∀ i, VRel G.M G.B (e i) (tmps.getD i undef)) (h : retS T e s fn.results.toList = some u) :
    ∃ v, (results fn tmps).run P w = .ok v w ∧ VRel G.M [] u v := by
  unfold results
  obtain ⟨l, hl⟩ : ∃ l, fn.results = List.toArray l := ⟨fn.results.toList, by simp⟩
  rw [hl] at h ⊢
  refine results_aux hT hs hv _ ?_ ?_ l h
  · exact fun _ => rfl
  · exact fun _ _ => rfl

theorem PCall.bodyS {P : Program} {T : Tab} (hT : T.Ok P) {f : FuncId} {fn : Func} {c : Code} {n : Nat} {avs : List AV} {r : AV} (hf : P.funcs[f]? = some fn) (hb : fn.body = some c) (hnm : (fn.name == "runtime.NumGoroutine") = false)
    (hn : fn.ntmps = n) (hle' : decide (avs.length ≤ n) = true) (h : AWP P n c (retKS T fn.results.toList r) (Env.init avs) []) : PCall P f avs r := by
  refine PCall.of_body hf hb hnm hn hle' h (fun x e s hk => hk.1) ?_
  rintro x e s G' tmps w' ⟨_, u, hu, hent⟩ hs hv
  obtain ⟨v, h1, h2⟩ := results_rel hT hs hv hu
  exact ⟨v, h1, hent _ _ h2⟩

/-! ### Structs of scalars, compared -/
def scal : LT → Bool
  | .bool | .int _ | .str => true
  | _ => false
def flatFs (P : Program) : Nat → List Field → Option (List LT)
  | _, [] => some []
  | k, f :: r => match P.underlying f.type, P.info? f.type, flatFs P (k + 1) r with
    | some d, some i, some l => if f.name ≠ "_" ∧ f.offset = k ∧ i.size = 1 ∧ scal (ltOf P d) = true then some (ltOf P d :: l) else none
    | _, _, _ => none
/-- The scalars of a struct that may be compared. -/
def flatOf (P : Program) (t : TypeId) : Option (List LT) := match P.underlying t with
  | some (.struct F) => if P.stoodInHeld t = false ∧ P.eqGuardType P.depth t = false then flatFs P 0 F.toList else none
  | _ => none

def eqV : LT → Value → Value → Option Bool
  | .bool, .bool a, .bool b => some (a == b)
  | .int _, .int k a, .int k' b => if k = k' then some (a == b) else none
  | .str, .string a, .string b => some (a == b)
  | _, _, _ => none
def eqVs : List LT → List AV → List AV → Option Bool
  | [], [], [] => some true
  | t :: ts, .prim a :: r, .prim b :: s => match eqV t a b, eqVs ts r s with
    | some h, some u => some (h && u)
    | _, _ => none
  | _, _, _ => none

theorem run_eqV {P : Program} {t : TypeId} {d : TypeDesc} {a b : Value} {r : Bool} (hd : P.underlying t = some d) (h : eqV (ltOf P d) a b = some r) (n : Nat) (w : World) : (Op.equalIn (n + 1) t a b).run P w = .ok r w := by
  rw [Op.equalIn, Sem.run_bind, run_underlying hd w]
  simp only [Result.andThen_ok]
  unfold eqV at h
  split at h <;> rename_i hlt
  · cases d <;> simp [ltOf] at hlt
    simp at h; subst h; rfl
  · cases d <;> simp [ltOf] at hlt
    split at h
    · rename_i hk
      simp at h; subst h; subst hk; simp
    · simp at h
  · cases d <;> simp [ltOf] at hlt
    simp at h; subst h; rfl
  · simp at h

theorem run_partV {P : Program} {t : TypeId} {d : TypeDesc} {i : TypeInfo} (hd : P.underlying t = some d) (hi : P.info? t = some i) (hsc : scal (ltOf P d) = true) (cs : Array Value) (off : Nat) (h : off < cs.size) (w : World) : (part t cs off).run P w = .ok (cs.getD off undef) w := by
  have ha : (isAgg t).run P w = .ok false w := by
    unfold isAgg
    rw [Sem.run_bind, run_underlying hd w]
    cases d <;> simp [ltOf, scal] at hsc <;> rfl
  unfold part
  rw [Sem.run_bind, ha]
  simp [h]

theorem run_eqFs {P : Program} (n : Nat) (w : World) (xs ys : Array Value) : ∀ (F : List Field) (k : Nat) (ts : List LT) (us vs : List AV) (r : Bool), flatFs P k F = some ts → eqVs ts us vs = some r →
    (∀ i, i < us.length → k + i < xs.size ∧ ∀ a, us[i]? = some (.prim a) → xs.getD (k + i) undef = a) → (∀ i, i < vs.length → k + i < ys.size ∧ ∀ a, vs[i]? = some (.prim a) → ys.getD (k + i) undef = a) →
    (do for f in F do
          if f.name ≠ "_" then
            if !(← Op.equalIn (n + 1) f.type (← part f.type xs f.offset) (← part f.type ys f.offset)) then return false
        pure true : Sem Bool).run P w = .ok r w := by
  intro F
  induction F with
  | nil =>
    intro k ts us vs r h1 h2 _ _
    simp only [flatFs, Option.some.injEq] at h1; subst h1
    match us, vs, h2 with
    | [], [], h2 => simp [eqVs] at h2; subst h2; rfl
  | cons f F ih =>
    intro k ts us vs r h1 h2 hx hy
    simp only [flatFs] at h1
    split at h1
    · rename_i d i l hd hi hF
      split at h1
      · rename_i hc
        obtain ⟨c1, c2, c3, c4⟩ := hc
        simp only [Option.some.injEq] at h1; subst h1
        match us, vs, h2 with
        | .prim a :: us, .prim b :: vs, h2 =>
          simp only [eqVs] at h2
          split at h2
          · rename_i h0 u0 g1 g2
            simp only [Option.some.injEq] at h2; subst h2
            obtain ⟨x1, x2⟩ := hx 0 (by simp)
            obtain ⟨y1, y2⟩ := hy 0 (by simp)
            have ex := x2 a rfl
            have ey := y2 b rfl
            simp only [Nat.add_zero] at x1 y1 ex ey
            have e1 := run_partV hd hi c4 xs k x1 w
            have e2 := run_partV hd hi c4 ys k y1 w
            rw [ex] at e1; rw [ey] at e2
            have e3 := run_eqV hd g1 n w
            have ih' := ih (k + 1) l us vs u0 hF g2 (fun i hi' => by
              have := hx (i + 1) (by simpa using hi')
              simp only [List.getElem?_cons_succ] at this
              have e : k + (i + 1) = k + 1 + i := by omega
              rwa [e] at this) (fun i hi' => by
              have := hy (i + 1) (by simpa using hi')
              simp only [List.getElem?_cons_succ] at this
              have e : k + (i + 1) = k + 1 + i := by omega
              rwa [e] at this)
            simp only [List.forIn_cons, c2]
            cases h0 with
            | true =>
              simp only [Bool.true_and]
              rw [← ih']
              simp only [ne_eq, c1, not_false_eq_true, if_true, Sem.run_bind, e1, e2, e3, Result.andThen_ok]
              simp
            | false =>
              simp only [ne_eq, c1, not_false_eq_true, if_true, Sem.run_bind, e1, e2, e3, Result.andThen_ok]
              simp
          · simp at h2
      · simp at h1
    · simp at h1


theorem eqVs_len : ∀ {ts : List LT} {us vs : List AV} {r : Bool}, eqVs ts us vs = some r → us.length = ts.length ∧ vs.length = ts.length
  | [], [], [], _, _ => ⟨rfl, rfl⟩
  | t :: ts, .prim a :: us, .prim b :: vs, r, h => by
    simp only [eqVs] at h
    split at h
    · rename_i g1 g2
      have := eqVs_len g2
      simp [this.1, this.2]
    · simp at h

theorem run_eqS {P : Program} {t : TypeId} {ts : List LT} (hfl : flatOf P t = some ts) {M : Mem} {B : List GB} {us vs : List AV} {x y : Value} {r : Bool} (hx : VRel M B (.agg us) x) (hy : VRel M B (.agg vs) y) (h : eqVs ts us vs = some r) (w : World) :
    ∃ xs ys, x = .agg xs ∧ y = .agg ys ∧ P.eqGuardType P.depth t = false ∧ (Op.equal t x y).run P w = .ok r w := by
  unfold flatOf at hfl
  split at hfl
  · rename_i F hF
    split at hfl
    · rename_i hg
      obtain ⟨g1, g2⟩ := hg
      have key : ∀ {us : List AV} {x : Value}, VRel M B (.agg us) x → ∃ xs, x = .agg xs ∧ ∀ i, i < us.length → 0 + i < xs.size ∧ ∀ a, us[i]? = some (.prim a) → xs.getD (0 + i) undef = a := by
        intro us x hx
        cases hx with
        | agg _ xs hl hr =>
          refine ⟨xs, rfl, fun i hi => ⟨by omega, fun a ha => ?_⟩⟩
          rw [Nat.zero_add]
          exact VRel.prim_eq (hr i _ ha)
      obtain ⟨xs, rfl, kx⟩ := key hx
      obtain ⟨ys, rfl, ky⟩ := key hy
      refine ⟨xs, ys, rfl, rfl, g2, ?_⟩
      have e := run_eqFs 9998 w xs ys F.toList 0 ts us vs r hfl h kx ky
      show (Op.equalIn (9999 + 1) t (.agg xs) (.agg ys)).run P w = _
      rw [Op.equalIn, Sem.run_bind, run_underlying hF w]
      simp only [Result.andThen_ok]
      have ep : Sem.run P (do let p ← program; pure p : Sem Program) w = .ok P w := rfl
      simp only [Sem.run_bind, run_program, Result.andThen_ok, g1, Bool.false_eq_true, if_false]
      obtain ⟨l, rfl⟩ : ∃ l, F = List.toArray l := ⟨F.toList, by simp⟩
      simp only [List.forIn_toArray]
      simpa [Sem.run_bind] using e
    · simp at hfl
  · simp at hfl

section
variable {P : Program} {T : Tab} {o : Oper} {env : Env} {σ : Store}

theorem PRun.eqS {t t' : TypeId} {ts : List LT} (hfl : flatOf P t = some ts) {x y : Operand} {us vs : List AV} {r : Bool} (ho : o.op = .binOp .eql t x y t') (hx : rdv env x = some (.agg us)) (nx : rdn env x) (hy : rdv env y = some (.agg vs)) (ny : rdn env y) (h : eqVs ts us vs = some r) :
    PRun P o env σ (.b r) :=
  .of fun G A w hs hv => by
    have h1 := rd (Rd.w hx nx) (by simp [ho, Op.operands]) hv
    have h2 := rd (Rd.w hy ny) (by simp [ho, Op.operands]) hv
    obtain ⟨xs, ys, e1, e2, hg, e3⟩ := run_eqS hfl h1 h2 h w
    refine ⟨_, ?_, .prim _⟩
    rw [e1, e2] at e3
    have e : binOp .eql t (.agg xs) (.agg ys) = (do pure (.bool (← Op.equal t (.agg xs) (.agg ys)))) := rfl
    simp only [execOp, ho, e1, e2, e]
    simp [eqGuard, hg, e3]

theorem PRun.neS {t t' : TypeId} {ts : List LT} (hfl : flatOf P t = some ts) {x y : Operand} {us vs : List AV} {r : Bool} (ho : o.op = .binOp .neq t x y t') (hx : rdv env x = some (.agg us)) (nx : rdn env x) (hy : rdv env y = some (.agg vs)) (ny : rdn env y) (h : eqVs ts us vs = some r) :
    PRun P o env σ (.b (!r)) :=
  .of fun G A w hs hv => by
    have h1 := rd (Rd.w hx nx) (by simp [ho, Op.operands]) hv
    have h2 := rd (Rd.w hy ny) (by simp [ho, Op.operands]) hv
    obtain ⟨xs, ys, e1, e2, hg, e3⟩ := run_eqS hfl h1 h2 h w
    refine ⟨_, ?_, .prim _⟩
    rw [e1, e2] at e3
    have e : binOp .neq t (.agg xs) (.agg ys) = (do pure (.bool (!(← Op.equal t (.agg xs) (.agg ys))))) := rfl
    simp only [execOp, ho, e1, e2, e]
    simp [eqGuard, hg, e3]

/-- A struct that is built. -/
def fsOf (T : Tab) (t : TypeId) : Option (List (Nat × Nat × Nat) × Nat × Nat × List Z) := match T.get t with
  | some ⟨.struct fs, s, b, z⟩ => if fs.all (fun x => x.2.2 != 0) then some (fs, s, b, z) else none
  | _ => none
def buildF (T : Tab) (env : Env) (t : TypeId) (parts : List (Nat × Operand)) : Option AV := match T.get t, partsF env parts with
  | some ⟨.struct fs, _, _, zs⟩, some ps => if fs.all (fun x => x.2.2 != 0) then (match fillA (fun i => (fs[i]?).map (·.2)) (zs.map Z.av) ps with
    | some r => (forceL r).map .agg
    | none => none) else none
  | _, _ => none
theorem PRun.buildW (hT : T.Ok P) {t : TypeId} {parts : Array (Nat × Operand)} {r : AV} (ho : o.op = .build t parts) (h : buildF T env t parts.toList = some r) (hn : rdns env (parts.toList.map (·.2))) : PRun P o env σ r := by
  unfold buildF at h
  split at h
  · rename_i fs s b zs ps hg hp
    split at h
    · rename_i hnz
      split at h
      · rename_i r' hf
        simp only [Option.map_eq_some_iff] at h
        obtain ⟨r2, h2, rfl⟩ := h
        rw [← forceL_eq h2]
        exact PRun.buildS ho (LOk.of (hT.get hg)) hnz hp hn hf
      · simp at h
    · simp at h
  · simp at h

/-- A slice that is written out. -/
def forceLL : List (List AV) → Option (List (List AV))
  | [] => some []
  | a :: l => match forceL a, forceLL l with
    | some a', some l' => some (a' :: l')
    | _, _ => none
theorem forceLL_eq : ∀ {l r : List (List AV)}, forceLL l = some r → l = r
  | [], r, h => by simp [forceLL] at h; exact h.symm
  | a :: l, r, h => by
    simp only [forceLL] at h
    split at h
    · rename_i g1 g2
      simp only [Option.some.injEq] at h; subst h
      rw [forceL_eq g1, forceLL_eq g2]
    · simp at h
def buildSlF (T : Tab) (env : Env) (t n : Nat) (parts : List (Nat × Operand)) : Option AV := match T.get t with
  | some ⟨.slice e, _, _, _⟩ => match T.get e, partsF env parts with
    | some le, some ps => if le.zero.length = le.size ∧ 0 < n * le.size ∧ n * le.size ≤ 16777216 then
        (match fillA (fun i => some (i * le.size, le.size)) ((List.range (n * le.size)).map fun i => (le.zero.map Z.av).getD (i % le.size) .any) (ps.map fun p => (p.1, p.2.map (unb 4))) with
        | some r => (forceLL (chunk le.size n r)).map fun es => .sl le.size es .fresh
        | none => none) else none
    | _, _ => none
  | _ => none
theorem PRun.buildSlW (hT : T.Ok P) {t n : Nat} {parts : Array (Nat × Operand)} {r : AV} (ho : o.op = .buildSlice t n parts) (h : buildSlF T env t n parts.toList = some r) (hn : rdns env (parts.toList.map (·.2))) : PRun P o env σ r := by
  unfold buildSlF at h
  split at h
  · rename_i e s b zs hg
    split at h
    · rename_i le ps hle hp
      split at h
      · rename_i hc
        split at h
        · rename_i r' hf
          simp only [Option.map_eq_some_iff] at h
          obtain ⟨r2, h2, rfl⟩ := h
          rw [← forceLL_eq h2]
          exact PRun.buildSl ho (LOk.of (hT.get hg)) (LOk.of (hT.get hle)) hc.1 hc.2.1 hc.2.2 hp hn hf
        · simp at h
      · simp at h
    · simp at h
  · simp at h
end
end Go.Ab
/- From a row's readings to contents, and from a contract by content to a row. -/
namespace Go.Ab
open Go.ChangeShapes Go.WideShapes

/-- Of what was there nothing has turned. -/
structure Kept (W W' : World) : Prop where
  out : W'.os = W.os ∧ W'.output = W.output
  size : W.heap.size ≤ W'.heap.size
  block : ∀ b, b < W.heap.size → W'.heap[b]? = W.heap[b]?

theorem Kept.frame {W W' : World} (h : Kept W W') (may : MemPlace → Prop) : W.keptBut W' may := by
  refine ⟨h.out.1, h.out.2, fun i hi => ?_⟩
  rw [h.block i hi]
  split <;> simp_all

theorem Kept.same {W W' : World} (h : Kept W W') {p : MemPlace} (hp : p.block < W.heap.size) : W.sameAt W' p := by
  cases p with
  | cell b o => exact World.cell?_of_block (w := W) (h.block b hp)
  | map b => exact h.block b hp

theorem Kept.trod {H : Type} {enc : TypeId × Value → H} {P : Program} {t : TypeId} (hl : laidOutB P = true) (hr : P.readableRec t = true) (hrow : t < P.types.size) {W W' : World} {v : Value} {d : DataW H} {ps : List MemPlace}
    (h : DataW.Trod enc P W 0 (fun _ => true) true t v d ps) (hb : Kept W W') : DataW.Trod enc P W' 0 (fun b => decide (b < W.heap.size)) true t v d ps := by
  have hlt : ∀ x ∈ ps, x.block < W.heap.size := by obtain ⟨m, hm⟩ := h; exact DataW.trod_lt m _ _ _ hm
  exact WideElems.Trod_stays hl hr hrow h (fun x hx => hb.same (hlt x hx)) (fun x hx => by simpa using hlt x hx)

theorem PCall.kept {P : Program} {f : FuncId} {avs : List AV} {b : Bool} (h : PCall P f avs (.b b)) (W : World) (hgam : GamOk (memOf W)) {args : Array Value} (ha : ArgsRel (memOf W) avs args) :
    Calls P f args W fun e W' => e = .returned (.bool b) ∧ Kept W W' := by
  unfold PCall at h
  refine (h.2 (memOf W) W args (memOf_ok W hgam) ha).mono ?_
  rintro e W' ⟨v, M', rfl, hv, hp⟩
  rw [VRel.prim_eq hv]
  exact ⟨rfl, ⟨hp.out.1, hp.size, hp.heap⟩⟩

/-- Values that read so, one by one. -/
inductive Reads (M : Mem) : List AV → List Value → Prop
  | nil : Reads M [] []
  | cons {a : AV} {v : Value} {as : List AV} {vs : List Value} (h : VRel M [] a v) (t : Reads M as vs) : Reads M (a :: as) (v :: vs)
theorem Reads.args {M : Mem} {avs : List AV} {vs : List Value} (h : Reads M avs vs) : ArgsRel M avs vs.toArray := by
  have h1 : vs.length = avs.length := by induction h with
    | nil => rfl
    | cons _ _ ih => simp [ih]
  refine ⟨by simpa using h1, ?_⟩
  induction h with
  | nil => intro i c hi; simp at hi
  | cons h t ih =>
    intro i c hi
    cases i with
    | zero => simp at hi; subst hi; simpa using h
    | succ i =>
      have := ih (by simpa using h1) i c (by simpa using hi)
      simpa [Array.getD_eq_getD_getElem?] using this

section
variable {H : Type} {enc : TypeId × Value → H} {P : Program} {w : World} {base : Nat} {held : Bool} {spare : Nat → Bool}

/-- A slice, by its elements' readings. -/
theorem slice_rel {α : Type} [Inhabited α] (f : α → List AV) (good : α → Prop) {t e : TypeId} {sz fuel : Nat} {v : Value} {x : DataW H × List MemPlace} (ht : P.underlying t = some (.slice e)) (hsz : P.cellsOf e = sz) (hpos : 0 < sz)
    (elem : ∀ (n : Nat) (cs : List Value) (y : DataW H × List MemPlace), DataW.trod enc P w base spare held n e cs = some y → ∃ a : α, (f a).length = sz ∧ (∀ (j : Nat) c, (f a)[j]? = some c → VRel (memOf w) [] c (cs.getD j undef)) ∧ good a)
    (hspot : ∀ a len cap, v = .slice (some a) len cap → a.spot = none)
    (h : DataW.trod enc P w base spare held fuel t [v] = some x) : ∃ al : List α, VRel (memOf w) [] (.sl sz (al.map f) .no) v ∧ al.length ≤ maxLen ∧ ∀ a ∈ al, good a := by
  rcases Deep.open_slice ht h with ⟨hc, _⟩ | ⟨a, len, cap, m, n, D, Pl, hc, _, hl, hm, hmm, _, hx⟩
  · simp at hc; subst hc
    exact ⟨[], .slz sz .no trivial, by simp, fun a ha => by simp at ha⟩
  · simp only [List.cons.injEq, and_true] at hc; subst hc
    have hle : len ≤ m := by rw [hmm]; split <;> omega
    rw [hsz] at hx
    obtain ⟨A, hA⟩ := Deep.choose_lt (n := len) (p := fun i (a' : α) => ∃ cs', w.cells? base (a.add (i * sz)) sz = some cs' ∧ (f a').length = sz ∧ (∀ (j : Nat) c, (f a')[j]? = some c → VRel (memOf w) [] c (cs'.getD j undef)) ∧ good a') (fun i hi => by
      obtain ⟨cs', h1, h2⟩ := hx i (by omega)
      obtain ⟨a', g1, g2, g3⟩ := elem _ _ _ h2
      exact ⟨a', cs', h1, g1, g2, g3⟩)
    obtain ⟨b, off, sp⟩ := a
    have hs : sp = none := hspot _ _ _ rfl
    subst hs
    have hadd : ∀ k, (⟨b, off, none⟩ : Addr).add k = ⟨b, off + k, none⟩ := fun k => by
      unfold Addr.add; split
      · rename_i h0; subst h0; rfl
      · rfl
    have cellAt : ∀ i j, i < len → j < sz → ∃ cs', w.cells? base ((⟨b, off, none⟩ : Addr).add (i * sz)) sz = some cs' ∧ w.cell? ⟨b, off + i * sz + j, none⟩ = cs'[j]? ∧ cs'.length = sz ∧ (∀ (j : Nat) c, (f (A i))[j]? = some c → VRel (memOf w) [] c (cs'.getD j undef)) := by
      intro i j hi hj
      obtain ⟨cs', h1, h2, h3, _⟩ := hA i hi
      obtain ⟨_, h4, h5⟩ := World.cells?_some h1
      refine ⟨cs', h1, ?_, h4, h3⟩
      have := h5 j hj
      rw [hadd] at this
      rw [← this]
      congr 1
      unfold Addr.add
      split
      · rename_i h0; subst h0; rfl
      · simp
    refine ⟨(List.range len).map A, ?_, by simp; omega, fun a' ha => ?_⟩
    · have hlen : (((List.range len).map A).map f).length = len := by simp
      have := VRel.sl (M := memOf w) (B := []) sz (((List.range len).map A).map f) .no b off cap (fun i j => (w.cell? ⟨b, off + i * sz + j, none⟩).getD undef) ?_ ?_ ?_ (by rw [hlen]; exact hl) trivial
      · rwa [hlen] at this
      · intro es hes
        simp only [List.map_map, List.mem_map, List.mem_range] at hes
        obtain ⟨i, hi, rfl⟩ := hes
        exact (hA i hi).choose_spec.2.1
      · intro i j hi hj
        rw [hlen] at hi
        obtain ⟨cs', _, h2, h3, _⟩ := cellAt i j hi hj
        have hlt : j < cs'.length := by omega
        show w.cell? _ = _
        rw [h2, List.getElem?_eq_getElem hlt]; rfl
      · intro i j es c h1 h2
        have hi : i < len := by
          rcases Nat.lt_or_ge i len with h | h
          · exact h
          · rw [List.getElem?_eq_none (by rw [hlen]; exact h)] at h1; cases h1
        simp [hi] at h1
        subst h1
        have hj : j < sz := by
          rw [← (hA i hi).choose_spec.2.1]
          rcases Nat.lt_or_ge j (f (A i)).length with h | h
          · exact h
          · rw [List.getElem?_eq_none h] at h2; cases h2
        obtain ⟨cs', _, h3, h4, h5⟩ := cellAt i j hi hj
        have := h5 j c h2
        rw [h3]
        exact this
    · simp only [List.mem_map, List.mem_range] at ha
      obtain ⟨i, hi, rfl⟩ := ha
      exact (hA i hi).choose_spec.2.2.2

theorem LOk.und_int {t : TypeId} {k : IntKind} {s1 b1 : Nat} {z : List Z} (hl : LOk P t ⟨.int k, s1, b1, z⟩) : P.underlying t = some (.int k) := by
  obtain ⟨d, h1, h2⟩ := hl.und
  cases d <;> simp [ltOf] at h2
  subst h2; exact h1
theorem LOk.und_str {t : TypeId} {s1 b1 : Nat} {z : List Z} (hl : LOk P t ⟨.str, s1, b1, z⟩) : P.underlying t = some .string := by
  obtain ⟨d, h1, h2⟩ := hl.und
  cases d <;> simp [ltOf] at h2
  exact h1
theorem LOk.und_bool {t : TypeId} {s1 b1 : Nat} {z : List Z} (hl : LOk P t ⟨.bool, s1, b1, z⟩) : P.underlying t = some .bool := by
  obtain ⟨d, h1, h2⟩ := hl.und
  cases d <;> simp [ltOf] at h2
  exact h1
theorem LOk.und_slice {t e : TypeId} {s1 b1 : Nat} {z : List Z} (hl : LOk P t ⟨.slice e, s1, b1, z⟩) : P.underlying t = some (.slice e) := by
  obtain ⟨d, h1, h2⟩ := hl.und
  cases d <;> simp [ltOf] at h2
  subst h2; exact h1

theorem int_rd {t : TypeId} {k : IntKind} {s1 b1 fuel : Nat} {z : List Z} {cs : List Value} {x : DataW H × List MemPlace} (hl : LOk P t ⟨.int k, s1, b1, z⟩) (h : DataW.trod enc P w base spare held fuel t cs = some x) : ∃ n, cs = [.int k n] ∧ (Lit.int k n).wf = true := by
  obtain ⟨n, h1, _, h3⟩ := DataW.trod_int hl.und_int h
  exact ⟨n, h1, h3⟩
theorem str_rd {t : TypeId} {s1 b1 fuel : Nat} {z : List Z} {cs : List Value} {x : DataW H × List MemPlace} (hl : LOk P t ⟨.str, s1, b1, z⟩) (h : DataW.trod enc P w base spare held fuel t cs = some x) : ∃ s, cs = [.string s] ∧ s.size ≤ maxLen := by
  obtain ⟨s, h1, _, h3⟩ := DataW.trod_string hl.und_str h
  exact ⟨s, h1, h3⟩

/-- A struct's fields, each by its own reading. -/
theorem struct_rd {t : TypeId} {fs : List (Nat × Nat × Nat)} {s1 b1 fuel : Nat} {z : List Z} {cs : List Value} {x : DataW H × List MemPlace} (hl : LOk P t ⟨.struct fs, s1, b1, z⟩) (h : DataW.trod enc P w base spare held fuel t cs = some x) :
    cs.length = P.cellsOf t ∧ ∃ n, ∀ (i : Nat) ft off sz, fs[i]? = some (ft, off, sz) → ∃ y, DataW.trod enc P w base spare held n ft ((cs.drop off).take (P.cellsOf ft)) = some y := by
  obtain ⟨d, h1, h2⟩ := hl.und
  cases d <;> simp [ltOf] at h2
  rename_i F
  obtain ⟨xs, n, _, _, hlen, hxl, hf⟩ := DataW.trod_struct h1 h
  refine ⟨hlen, n, fun i ft off sz hi => ?_⟩
  rw [← h2] at hi
  simp only [List.getElem?_map, Option.map_eq_some_iff] at hi
  obtain ⟨f, hfi, hfe⟩ := hi
  simp only [Prod.mk.injEq] at hfe
  obtain ⟨rfl, rfl, _⟩ := hfe
  have hlt : i < F.toList.length := by
    rcases Nat.lt_or_ge i F.toList.length with h | h
    · exact h
    · rw [List.getElem?_eq_none h] at hfi; cases hfi
  have := hf i f (by simpa using hfi)
  have hlt2 : i < xs.length := by rw [hxl]; simpa using hlt
  exact ⟨xs[i], by rw [this, List.getElem?_eq_getElem hlt2]⟩

/-- A slice in a struct that is handed in has no place of its own kind. -/
theorem struct_ok {r : Reach} {b0 : Nat} {t : TypeId} {fs : List (Nat × Nat × Nat)} {s1 b1 : Nat} {z : List Z} {v : Value} {ts : List TypeId} (hl : LOk P t ⟨.struct fs, s1, b1, z⟩) (hct : P.cellTypes P.depth t = some ts) (hv : Value.okWide P w r b0 t v) :
    ∃ cs, v = .agg cs ∧ cs.size = P.cellsOf t ∧ ∀ (i : Nat) u e a len cap, i < ts.length → ts[i]? = some u → P.underlying u = some (.slice e) → cs[i]? = some (.slice (some a) len cap) → a.spot = none := by
  obtain ⟨d, h1, h2⟩ := hl.und
  cases d <;> simp [ltOf] at h2
  unfold Value.okWide at hv
  rw [h1] at hv
  obtain ⟨cs, rfl, hsz, ts', ht', _, hc⟩ := hv
  rw [hct] at ht'
  simp only [Option.some.injEq] at ht'; subst ht'
  refine ⟨cs, rfl, hsz, fun i u e a len cap hi hu hun hcs => ?_⟩
  obtain ⟨u', hu', hok⟩ := hc i _ hcs
  rw [Nat.mod_eq_of_lt hi, hu] at hu'
  simp only [Option.some.injEq] at hu'; subst hu'
  unfold Cell.okWide at hok
  simp only [hun] at hok
  unfold Cell.ok at hok
  simp only [hun] at hok
  exact hok.2.2.2.1
end
end Go.Ab
/- A nil slice in a variable becomes a growing array. -/
namespace Go.Ab
variable {P : Program} {n : Nat} {K : Exit → Env → Store → Prop} {env : Env} {σ : Store}

theorem SRel.ownNil {G : Gh} {w : World} (sz : Nat) (h0 : SRel G σ w) : SRel { G with B := G.B ++ [.own none 0 0] } (σ ++ [.own sz 0]) w := by
  have hb : BLe G.B (G.B ++ [.own none 0 0]) := BLe.append _ _
  have new : ∀ (l : Nat) (g : GB), (G.B ++ [GB.own none 0 0])[l]? = some g → l < G.B.length ∧ G.B[l]? = some g ∨ l = G.B.length ∧ g = .own none 0 0 := by
    intro l g h
    rcases Nat.lt_or_ge l G.B.length with hlt | hge
    · rw [List.getElem?_append_left hlt] at h; exact .inl ⟨hlt, h⟩
    · rw [List.getElem?_append_right hge] at h
      have hz : l - G.B.length = 0 := by
        rcases Nat.eq_zero_or_pos (l - G.B.length) with hz | hp
        · exact hz
        · rw [List.getElem?_eq_none (by simp; omega)] at h; simp at h
      rw [hz] at h; simp at h
      exact .inr ⟨by omega, h.symm⟩
  refine ⟨h0.memok, h0.m0, h0.base, by simp [h0.len], fun l g o h1 h2 => ?_, fun l g b h1 h2 => ?_, fun l l' g g' b h1 h2 h3 h4 => ?_, h0.out, ⟨fun p hp => ?_, h0.dfr.2⟩⟩
  · rcases new l g h1 with ⟨hlt, h1⟩ | ⟨rfl, rfl⟩
    · rw [List.getElem?_append_left (by rw [← h0.len]; exact hlt)] at h2
      exact (h0.objs l g o h1 h2).keep hb fun b _ => rfl
    · rw [List.getElem?_append_right (by rw [← h0.len]; exact Nat.le_refl _)] at h2
      simp [h0.len] at h2; subst h2
      exact .ownz sz
  · rcases new l g h1 with ⟨_, h1⟩ | ⟨_, rfl⟩
    · exact h0.fresh l g b h1 h2
    · simp [GB.block] at h2
  · rcases new l g h1 with ⟨_, h1⟩ | ⟨_, rfl⟩
    · rcases new l' g' h2 with ⟨_, h2⟩ | ⟨_, rfl⟩
      · exact h0.inj l l' g g' b h1 h2 h3 h4
      · simp [GB.block] at h4
    · simp [GB.block] at h3
  · obtain ⟨k1, k2, k3, k4⟩ := h0.dfr.1 p hp
    refine ⟨k1, k2, fun l g h1 e => ?_, k4⟩
    rcases new l g h1 with ⟨_, h1⟩ | ⟨_, rfl⟩
    · exact k3 l g h1 e
    · simp [GB.block] at e
/-- An object is told in other words. -/
theorem SRel.retell {G : Gh} {w : World} {l : Nat} {o o' : AObj} (h : SRel G σ w) (hσ : σ[l]? = some o) (ho : ∀ g, G.B[l]? = some g → ORel G.M G.B w g o → ORel G.M G.B w g o') : SRel G (σ.set l o') w := by
  refine ⟨h.memok, h.m0, h.base, by simp [h.len], fun l' g o2 h1 h2 => ?_, h.fresh, h.inj, h.out, h.dfr⟩
  by_cases e : l = l'
  · subst e
    have hlt : l < σ.length := by
      rcases Nat.lt_or_ge l σ.length with h' | h'
      · exact h'
      · rw [List.getElem?_eq_none h'] at hσ; cases hσ
    rw [List.getElem?_set_self hlt] at h2
    simp at h2; subst h2
    exact ho g h1 (h.objs l g o h1 hσ)
  · rw [List.getElem?_set_ne e] at h2
    exact h.objs l' g o2 h1 h2

theorem AWP.ownNilV {c : Code} {v i sz : Nat} {cs : List AV} (hv : σ[v]? = some (.var cs)) (hi : cs[i]? = some .nils)
    (hk : AWP P n c K env (σ.set v (.var (cs.set i (.sl sz [] (.own σ.length)))) ++ [.own sz 0])) : AWP P n c K env σ := by
  intro G a w hr
  have hs := hr.st.ownNil sz
  have hv' : (σ ++ [AObj.own sz 0])[v]? = some (.var cs) := by
    have hlt : v < σ.length := by
      rcases Nat.lt_or_ge v σ.length with h' | h'
      · exact h'
      · rw [List.getElem?_eq_none h'] at hv; cases hv
    rw [List.getElem?_append_left hlt]; exact hv
  have hlt : v < σ.length := by
    rcases Nat.lt_or_ge v σ.length with h' | h'
    · exact h'
    · rw [List.getElem?_eq_none h'] at hv; cases hv
  have hl : (G.B ++ [GB.own none 0 0])[σ.length]? = some (.own none 0 0) := by
    rw [List.getElem?_append_right (by rw [hr.st.len]; exact Nat.le_refl _)]; simp [hr.st.len]
  have hs2 : SRel { G with B := G.B ++ [GB.own none 0 0] } ((σ ++ [AObj.own sz 0]).set v (.var (cs.set i (.sl sz [] (.own σ.length))))) w := by
    refine hs.retell hv' fun g hg ho => ?_
    cases ho with
    | var b _ c T fr hb hf hl' hr2 hm =>
      refine .var b _ c T fr hb hf (by simpa using hl') (fun j av hj => ?_) hm
      by_cases e : i = j
      · subst e
        have hltc : i < cs.length := by
          rcases Nat.lt_or_ge i cs.length with h' | h'
          · exact h'
          · rw [List.getElem?_eq_none h'] at hi; cases hi
        rw [List.getElem?_set_self hltc] at hj
        simp at hj; subst hj
        have := hr2 i _ hi
        cases hx : c.getD i undef <;> rw [hx] at this <;> cases this
        exact .slz sz _ ⟨none, 0, 0, by rw [hl], Nat.le_refl _, fun _ => ⟨rfl, rfl⟩⟩
      · rw [List.getElem?_set_ne e] at hj
        exact hr2 j av hj
  have e : (σ ++ [AObj.own sz 0]).set v (.var (cs.set i (.sl sz [] (.own σ.length)))) = σ.set v (.var (cs.set i (.sl sz [] (.own σ.length)))) ++ [AObj.own sz 0] := by
    rw [List.set_append_left _ _ hlt]
  rw [e] at hs2
  refine wpIn_mono (hk { G with B := G.B ++ [GB.own none 0 0] } a w ⟨hr.size, hr.defers, fun i => (hr.vals i).mono (Mem.Le.refl _) (BLe.append _ _), hs2⟩) ?_
  rintro x a' w' ⟨e', s', G', h1, h2, h3⟩
  exact ⟨e', s', G', h1, Gh.Le.trans (G' := { G with B := G.B ++ [GB.own none 0 0] }) (.upB (BLe.append _ _)) h2, h3⟩
end Go.Ab
/- Regions that draw their order, with a chain of effects among quiet operations. -/
namespace Go.Ab
section
variable {P : Program} {n : Nat} {ops : Array Oper} {md : Region.Mode} {S : Nat → Store} {m : Nat}

/-- One operation of such a region: quiet in every state of the store, or the next effect. -/
inductive XS (P : Program) (n : Nat) (ops : Array Oper) (S : Nat → Store) (m : Nat) (eff : Oper → Bool) (o : Oper) (env : Env) : Nat → AV → Nat → Prop
  | quiet {j : Nat} {v : AV} (hj : j ≤ m) (he : eff o = false) (h : ∀ k, k ≤ m → PStep P ops o env (S k) v) : XS P n ops S m eff o env j v j
  | eff {j : Nat} {v : AV} (hj : j < m) (he : eff o = true) (h : ∀ env', (∀ x ∈ o.looksAt ops, env' x = env x) → EStep P n ops o (fun e s => e = env'.putO o.dst v ∧ s = S (j + 1)) env' (S j)) : XS P n ops S m eff o env j v (j + 1)

variable {eff : Oper → Bool}
theorem XS.congr {o : Oper} {env env' : Env} {j j' : Nat} {v : AV} (h : XS P n ops S m eff o env j v j') (he : ∀ x ∈ o.looksAt ops, env' x = env x) : XS P n ops S m eff o env' j v j' := by
  cases h with
  | quiet hj hf h => exact .quiet hj hf fun k hk => (h k hk).congr he
  | eff hj hf h => exact .eff hj hf fun e2 h2 => h e2 fun x hx => (h2 x hx).trans (he x hx)

def xq (P : Program) (n : Nat) (ops : Array Oper) (S : Nat → Store) (m : Nat) (eff : Oper → Bool) (i : Nat) (K : Env → Nat → Prop) (env : Env) (j : Nat) : Prop :=
  match ops[i]? with
  | none => K env j
  | some o => ∃ v j', XS P n ops S m eff o env j v j' ∧ K (env.putO o.dst v) j'

theorem xq_mono {i : Nat} {env : Env} {j : Nat} {K K' : Env → Nat → Prop} (h : ∀ e j, K e j → K' e j) (hh : xq P n ops S m eff i K env j) : xq P n ops S m eff i K' env j := by
  unfold xq at *
  split
  · exact h _ _ (by simpa [*] using hh)
  · rename_i o ho; simp only [ho] at hh; obtain ⟨v, j', h1, h2⟩ := hh; exact ⟨v, j', h1, h _ _ h2⟩

def xAny (P : Program) (n : Nat) (md : Region.Mode) (ops : Array Oper) (S : Nat → Store) (m : Nat) (eff : Oper → Bool) (K : Env → Nat → Prop) : Nat → Array Bool → Env → Nat → Prop
  | 0, listed, e, j => Region.ready md ops listed = [] ∧ K e j
  | fuel + 1, listed, e, j =>
    (Region.ready md ops listed = [] → K e j) ∧ ∀ i ∈ Region.ready md ops listed, xq P n ops S m eff i (xAny P n md ops S m eff K fuel (listed.setIfInBounds i true)) e j

theorem xq_put {i0 : Nat} {oi oj : Oper} {v : AV} {j j1 : Nat} (hj : ops[i0]? = some oj) (hap : oi.apart ops oj = true) (hef : (eff oi && eff oj) = false) {K : Env → Nat → Prop} {env : Env}
    (hy : XS P n ops S m eff oi env j v j1) (h : xq P n ops S m eff i0 K (env.putO oi.dst v) j1) :
    xq P n ops S m eff i0 (fun e j' => ∃ j2, XS P n ops S m eff oi e j' v j2 ∧ K (e.putO oi.dst v) j2) env j := by
  obtain ⟨h1, h2, h3⟩ := Oper.apart_spec hap
  unfold xq at *
  simp only [hj] at *
  obtain ⟨u, j2, hu, hK⟩ := h
  have hu' := hu.congr (env' := env) fun x hx => (Env.putO_other _ fun i hi e => h1 i hi (e ▸ hx)).symm
  have hy' := hy.congr (env' := env.putO oj.dst u) fun x hx => Env.putO_other _ fun i hi e => h3 i hi (e ▸ hx)
  rw [Env.putO_comm env v u h2] at hK
  cases hu' with
  | quiet g1 g2 g3 =>
    cases hy' with
    | quiet k1 k2 k3 => exact ⟨u, _, .quiet g1 g2 g3, _, .quiet k1 k2 k3, hK⟩
    | eff k1 k2 k3 => exact ⟨u, _, .quiet (by omega) g2 g3, _, .eff k1 k2 k3, hK⟩
  | eff g1 g2 g3 =>
    cases hy' with
    | quiet k1 k2 k3 => exact ⟨u, _, .eff g1 g2 g3, _, .quiet (by omega) k2 k3, hK⟩
    | eff k1 k2 k3 => rw [k2, g2] at hef; cases hef

theorem xAny_first {K : Env → Nat → Prop} {i : Nat} {oi : Oper} {v : AV} (hi : ops[i]? = some oi) :
    ∀ (fuel : Nat) (listed : Array Bool) (env : Env) (j j1 : Nat),
      (∀ k ok, ops[k]? = some ok → k ≠ i → listed.getD k true = false → (∀ e ∈ ok.after, Region.binds md e = true → e.on ≠ i) → oi.apart ops ok = true ∧ (eff oi && eff ok) = false) →
      i ∈ Region.ready md ops listed → XS P n ops S m eff oi env j v j1 →
      xAny P n md ops S m eff K fuel (listed.setIfInBounds i true) (env.putO oi.dst v) j1 → xAny P n md ops S m eff K (fuel + 1) listed env j := by
  have take : ∀ {env : Env} {j j1 : Nat} {K : Env → Nat → Prop}, XS P n ops S m eff oi env j v j1 → K (env.putO oi.dst v) j1 → xq P n ops S m eff i K env j := fun hy h => by
    unfold xq; simp only [hi]; exact ⟨v, _, hy, h⟩
  intro fuel
  induction fuel with
  | zero =>
    intro listed env j j1 _ hr hy H
    refine ⟨fun h => (by rw [h] at hr; cases hr), fun k hk => ?_⟩
    by_cases hki : k = i
    · subst hki; exact take hy H
    · have := ready_mono hk hki
      rw [H.1] at this
      cases this
  | succ fuel ih =>
    intro listed env j j1 hfree hr hy H
    refine ⟨fun h => (by rw [h] at hr; cases hr), fun k hk => ?_⟩
    by_cases hki : k = i
    · subst hki; exact take hy H
    · have h1 := H.2 k (ready_mono hk hki)
      obtain ⟨hkun, ok, hok, hall⟩ := mem_ready.1 hk
      have hnot : ∀ e ∈ ok.after, Region.binds md e = true → e.on ≠ i := fun e he hb heq => by
        have h1 := hall e he hb
        have h0 := (mem_ready.1 hr).1
        rw [heq] at h1
        rcases Nat.lt_or_ge i listed.size with h' | h'
        · simp [h'] at h0 h1; rw [h0] at h1; cases h1
        · simp [Array.getElem?_eq_none h'] at h1
      obtain ⟨f1, f2⟩ := hfree k ok hok hki hkun hnot
      have h2 := xq_put hok f1 f2 hy h1
      have hfree' : ∀ l ol, ops[l]? = some ol → l ≠ i → (listed.setIfInBounds k true).getD l true = false →
          (∀ e ∈ ol.after, Region.binds md e = true → e.on ≠ i) → oi.apart ops ol = true ∧ (eff oi && eff ol) = false := fun l ol hl hli hun hno => by
        refine hfree l ol hl hli ?_ hno
        by_cases hkl : k = l
        · subst hkl; exact hkun
        · rw [getD_set_ne true hkl] at hun; exact hun
      refine xq_mono (fun e' j' h3 => ?_) h2
      obtain ⟨j2, h4, h5⟩ := h3
      refine ih (listed.setIfInBounds k true) e' j' j2 hfree' (ready_mono hr (Ne.symm hki)) h4 ?_
      rw [Array.setIfInBounds_comm _ _ hki]
      exact h5

/-- In the order of the text. -/
def XQ (P : Program) (n : Nat) (ops : Array Oper) (S : Nat → Store) (m : Nat) (eff : Oper → Bool) (K : Env → Nat → Prop) : List Oper → Env → Nat → Prop
  | [], e, j => K e j
  | o :: rest, e, j => ∃ v j', XS P n ops S m eff o e j v j' ∧ XQ P n ops S m eff K rest (e.putO o.dst v) j'

/-- No two effects are apart: their order is the text's. -/
def effB (ops : Array Oper) (eff : Oper → Bool) : Bool := (List.range ops.size).all fun i => (List.range ops.size).all fun k => i == k || match ops[i]?, ops[k]? with
  | some o, some o' => !(eff o && eff o' && o.apart ops o')
  | _, _ => true
theorem effB_spec (h : effB ops eff = true) {i k : Nat} {o o' : Oper} (hne : k ≠ i) (h1 : ops[i]? = some o) (h2 : ops[k]? = some o') (hap : o.apart ops o' = true) : (eff o && eff o') = false := by
  have m1 := (Array.getElem?_eq_some_iff.1 h1).1
  have m2 := (Array.getElem?_eq_some_iff.1 h2).1
  have := List.all_eq_true.1 (List.all_eq_true.1 h i (List.mem_range.2 m1)) k (List.mem_range.2 m2)
  have e : (i == k) = false := by simp; exact fun e => hne e.symm
  simp only [e, Bool.false_or, h1, h2] at this
  rw [hap, Bool.and_true, Bool.not_eq_true'] at this
  exact this

theorem xAny_lex (hE : effB ops eff = true) {K : Env → Nat → Prop} : ∀ (l : List Oper) (k : Nat) (listed : Array Bool) (env : Env) (j : Nat), (∀ i, l[i]? = ops[k + i]?) →
    Region.lexFrom md ops l.length k listed = true → XQ P n ops S m eff K l env j → xAny P n md ops S m eff K l.length listed env j
  | [], _, _, _, _, _, hB, h => ⟨by simpa [Region.lexFrom] using hB, h⟩
  | o :: l, k, listed, env, j, hl, hB, h => by
    have h0 : ops[k]? = some o := by simpa using (hl 0).symm
    simp only [List.length_cons, Region.lexFrom, Bool.and_eq_true] at hB
    obtain ⟨⟨hr, hf⟩, hB'⟩ := hB
    obtain ⟨v, j', hy, hK⟩ := h
    exact xAny_first h0 l.length listed env j j' (fun k2 ok h1 h2 h3 h4 => let ap := Region.free_spec h0 hf k2 ok h1 h2 h3 h4; ⟨ap, effB_spec hE h2 h0 h1 ap⟩) (by simpa using hr) hy
      (xAny_lex hE l (k + 1) _ _ j' (fun i => by have := hl (i + 1); simpa [Nat.add_assoc, Nat.add_comm 1 i] using this) hB' hK)

theorem wpAny_of_xAny {K : Env → Nat → Prop} (ro : Option Nat) (hd : dstsOk n ops = true) : ∀ (fuel : Nat) (listed : Array Bool) (env : Env) (j : Nat), xAny P n md ops S m eff K fuel listed env j → ∀ G a w, ARel n G env (S j) a w →
    ∀ Q : Exit → Act → World → Prop, (∀ G' env' j' a' w', G.Le G' → K env' j' → ARel n G' env' (S j') a' w' → Q .normal a' w') → wpAnyIn (FR ro) 0 P md ops Q fuel listed a w
  | 0, _, env, j, h, G, a, w, hr, Q, hQ => ⟨h.1, hQ G env j a w (Gh.Le.refl G) h.2 hr⟩
  | fuel + 1, listed, env, j, h, G, a, w, hr, Q, hQ => by
    refine ⟨fun h0 => hQ G env j a w (Gh.Le.refl G) (h.1 h0) hr, fun i hi => ?_⟩
    have hq := h.2 i hi
    unfold xq at hq
    unfold wpOpIn
    split
    · rename_i ho; simp only [ho] at hq; exact wpAny_of_xAny ro hd fuel _ env j hq G a w hr Q hQ
    · rename_i o ho
      simp only [ho] at hq
      obtain ⟨v, j', hx, hK⟩ := hq
      have hdo : ∀ x, o.dst = some x → x < n := dstOk_spec (by
        have := List.all_eq_true.1 hd o (by
          obtain ⟨hlt, he⟩ := Array.getElem?_eq_some_iff.1 ho
          rw [← he]; simp)
        exact this)
      cases hx with
      | quiet hj hf hp =>
        have := hp j hj G a w hr.st (fun x _ => hr.vals x)
        split
        · rename_i hw
          rw [if_pos hw] at this
          refine this.toIn ?_
          rintro a' w' ⟨x, G', rfl, h1, h2, h3⟩
          have hr' : ARel n G' env (S j) a w' := hr.later h2 h3
          exact wpAny_of_xAny ro hd fuel _ _ j hK G' _ w' (hr'.putO hdo h1) Q fun G'' e' j'' a'' w'' hg hk hr => hQ G'' e' j'' a'' w'' (h2.trans hg) hk hr
        · rename_i hw
          rw [if_neg hw] at this
          exact ⟨fun _ _ => trivial, wpAny_of_xAny ro hd fuel _ _ j hK G _ w (hr.putO hdo this) Q hQ⟩
      | eff hj hf hp =>
        have := hp env (fun _ _ => rfl) G a w hr
        split
        · rename_i hw
          rw [if_pos hw] at this
          refine this.toIn ?_
          rintro a' w' ⟨e', s', G', ⟨rfl, rfl⟩, h2, h3⟩
          exact wpAny_of_xAny ro hd fuel _ _ _ hK G' a' w' h3 Q fun G'' e' j'' a'' w'' hg hk hr => hQ G'' e' j'' a'' w'' (h2.trans hg) hk hr
        · rename_i hw
          rw [if_neg hw] at this
          obtain ⟨env', σ', ⟨rfl, rfl⟩, h3⟩ := this
          exact ⟨fun _ _ => trivial, wpAny_of_xAny ro hd fuel _ _ _ hK G _ w h3 Q hQ⟩

/-- A region that draws its order, with a chain of effects: the stores on the way are S 0 .. S m. -/
theorem AWP.drawX {id : Nat} {l : List Oper} {K : Exit → Env → Store → Prop} {env : Env} {σ : Store} (S : Nat → Store) (m : Nat) (eff : Oper → Bool) (h0 : S 0 = σ)
    (hm : P.follows .mixedOrders = true) (hB : Region.lexB .any l.toArray = true) (hd : dstsOk n l.toArray = true) (hE : effB l.toArray eff = true)
    (h : ∀ K' : Env → Nat → Prop, (∀ e j, K .normal e (S j) → K' e j) → XQ P n l.toArray S m eff K' l env 0) : AWP P n (.region id l.toArray true) K env σ := by
  subst h0
  intro G a w hr
  simp only [Region.lexB, Bool.and_eq_true] at hB
  refine wpIn_region_any hm ?_
  have := xAny_lex (md := .any) hE l 0 (Array.replicate l.toArray.size false) env 0 (by simp) (by simpa using hB.2) (h (fun e j => K .normal e (S j)) fun _ _ h => h)
  refine wpAny_of_xAny _ hd _ _ env 0 (by simpa using this) G a _ ⟨hr.size, hr.defers, hr.vals, hr.st.drew⟩ _ ?_
  intro G' env' j' a' w' hg hk hr'
  exact ⟨env', S j', G', hk, hg, hr'⟩
end
end Go.Ab
/- Drawn regions with effects, in the walk's form. -/
namespace Go.Ab
section
variable {P : Program} {n : Nat} {ops : Array Oper} {S : Nat → Store} {m j : Nat} {eff : Oper → Bool} {o : Oper} {rest : List Oper} {K : Env → Nat → Prop} {env : Env}
theorem XQ.nil (h : K env j) : XQ P n ops S m eff K [] env j := h
theorem XQ.q {v v' : AV} {g : GG} {d : Nat} (hj : decide (j ≤ m) = true) (he : eff o = false) (hd : o.dst = some d) (hg : gOf ops env o = some g) (h : ∀ k, k ≤ m → g.holds → PRun P o env (S k) v) (hv : g.wrap v = v')
    (hk : XQ P n ops S m eff K rest (env.put d v') j) : XQ P n ops S m eff K (o :: rest) env j := by
  subst hv
  refine ⟨g.wrap v, j, .quiet (of_decide_eq_true hj) he fun k hk => PStep.g hg (h k hk), ?_⟩
  rw [hd]; exact hk
theorem XQ.e {v : AV} {d : Option Nat} (hj : decide (j < m) = true) (he : eff o = true) (hd : o.dst = d) (h : ∀ env', (∀ x ∈ o.looksAt ops, env' x = env x) → EStep P n ops o (fun e s => e = env'.putO o.dst v ∧ s = S (j + 1)) env' (S j))
    (hk : XQ P n ops S m eff K rest (env.putO d v) (j + 1)) : XQ P n ops S m eff K (o :: rest) env j := by
  subst hd
  exact ⟨v, j + 1, .eff (of_decide_eq_true hj) he h, hk⟩
end
end Go.Ab
