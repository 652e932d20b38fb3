/- Growing arrays: append. -/
import Derived.Test.YtjjlckhdgnoopaaAb9
import Derived.Laws.Append
import Derived.Deep.AppendSrc
namespace Go.Ab

/-- One growing array takes another place or another length; all else stays. -/
theorem SRel.regrow {G : Gh} {σ : Store} {w w' : World} (h : SRel G σ w) {l bs : Nat} {g g' : GB} {o' : AObj} {M' : Mem} (hl : G.B[l]? = some g) (hle : G.M.Le M') (hB : g.Le g') (hg' : g'.block = some bs)
    (hsz : w.heap.size ≤ w'.heap.size) (hh : ∀ k, k ≠ bs → k < w.heap.size → w'.heap[k]? = w.heap[k]?) (hmm : M'.map = G.M.map) (hmc : ∀ b, b ≠ bs → ∀ o, M'.cell b o = G.M.cell b o) (hok : MemOk M' w')
    (hbs : g.block = some bs ∨ w.heap.size ≤ bs) (hbs' : bs < w'.heap.size) (hout : w'.os = w.os ∧ w'.output = w.output) (ho : ORel M' (G.B.set l g') w' g' o') : SRel { G with M := M', B := G.B.set l g' } (σ.set l o') w' := by
  have hlb : l < G.B.length := by
    rcases Nat.lt_or_ge l G.B.length with h' | h'
    · exact h'
    · simp [List.getElem?_eq_none h'] at hl
  have hls : l < σ.length := by rw [← h.len]; exact hlb
  have hw0 : G.w0.heap.size ≤ bs := by
    rcases hbs with hb | hb
    · exact (h.fresh l g bs hl hb).1
    · exact Nat.le_trans h.base.1 hb
  have hBle : BLe G.B (G.B.set l g') := by
    intro l' g1 h1
    by_cases e : l = l'
    · subst e
      rw [hl] at h1; simp at h1; subst h1
      exact ⟨g', by rw [List.getElem?_set_self hlb], hB⟩
    · exact ⟨g1, by rw [List.getElem?_set_ne e]; exact h1, GB.Le.refl _⟩
  have other : ∀ (l' : Nat) (g1 : GB) (b : Nat), l ≠ l' → G.B[l']? = some g1 → g1.block = some b → b ≠ bs := by
    intro l' g1 b hne h1 h2 e
    subst e
    rcases hbs with hb | hb
    · exact hne (h.inj l l' g g1 b hl h1 hb h2)
    · have := (h.fresh l' g1 b h1 h2).2; omega
  refine ⟨hok, fun b hb => ?_, ⟨Nat.le_trans h.base.1 hsz, fun b hb => ?_⟩, by simp [h.len], fun l' g1 o1 h1 h2 => ?_, fun l' g1 b h1 h2 => ?_, fun l1 l2 g1 g2 b h1 h2 h3 h4 => ?_, ⟨hout.1.trans h.out.1, hout.2.trans h.out.2⟩⟩
  · have hb' : b < G.w0.heap.size := hb
    have := h.m0 b hb
    exact ⟨fun o => (hmc b (by omega) o).trans (this.1 o), by rw [show M'.map b = G.M.map b by rw [hmm]]; exact this.2⟩
  · have hb' : b < G.w0.heap.size := hb
    rw [hh b (by omega) (Nat.lt_of_lt_of_le hb' h.base.1)]; exact h.base.2 b hb
  · by_cases e : l = l'
    · subst e
      rw [List.getElem?_set_self hlb] at h1
      rw [List.getElem?_set_self hls] at h2
      simp at h1 h2; subst h1; subst h2; exact ho
    · rw [List.getElem?_set_ne e] at h1 h2
      have ho1 := h.objs l' g1 o1 h1 h2
      have hne := fun b hb => other l' g1 b e h1 hb
      have hfr := fun b hb => (h.fresh l' g1 b h1 hb).2
      cases ho1 with
      | var b cs c T fr hb hf hl' hr hm => exact .var b cs c T fr ((hh b (hne b rfl) (hfr b rfl)).trans hb) hf hl' (fun i a hi => (hr i a hi).mono hle hBle) fun o => (hmc b (hne b rfl) o).trans (hm o)
      | ownz sz => exact .ownz sz
      | own b cap sz n c T fr hb hf hl' hn hm => exact .own b cap sz n c T fr ((hh b (hne b rfl) (hfr b rfl)).trans hb) hf hl' hn fun o ho => (hmc b (hne b rfl) o).trans (hm o ho)
      | map b kvs es clock hb hl' hk hr hm => exact .map b kvs es clock ((hh b (hne b rfl) (hfr b rfl)).trans hb) hl' hk (fun i k v e x y => (hr i k v e x y).mono hle hBle) (by rw [hmm]; exact hm)
      | siter b s pos hb => exact .siter b s pos ((hh b (hne b rfl) (hfr b rfl)).trans hb)
      | dead => exact .dead _
  · by_cases e : l = l'
    · subst e
      rw [List.getElem?_set_self hlb] at h1
      simp at h1; subst h1
      rw [hg'] at h2; simp at h2; subst h2
      exact ⟨hw0, hbs'⟩
    · rw [List.getElem?_set_ne e] at h1
      have := h.fresh l' g1 b h1 h2
      exact ⟨this.1, Nat.lt_of_lt_of_le this.2 hsz⟩
  · by_cases e1 : l = l1 <;> by_cases e2 : l = l2
    · rw [← e1, ← e2]
    · subst e1
      rw [List.getElem?_set_self hlb] at h1
      rw [List.getElem?_set_ne e2] at h2
      simp at h1; subst h1
      rw [hg'] at h3; simp at h3; subst h3
      exact absurd rfl (other l2 g2 _ e2 h2 h4)
    · subst e2
      rw [List.getElem?_set_self hlb] at h2
      rw [List.getElem?_set_ne e1] at h1
      simp at h2; subst h2
      rw [hg'] at h4; simp at h4; subst h4
      exact absurd rfl (other l1 g1 _ e1 h1 h3)
    · rw [List.getElem?_set_ne e1] at h1
      rw [List.getElem?_set_ne e2] at h2
      exact h.inj l1 l2 g1 g2 b h1 h2 h3 h4

theorem ORel.own_inv {M : Mem} {B : List GB} {w : World} {ob : Option Nat} {cp nf sz m : Nat} (h : ORel M B w (.own ob cp nf) (.own sz m)) : nf = m ∧ ((ob = none ∧ cp = 0 ∧ m = 0) ∨
    ∃ b c T fr, ob = some b ∧ w.heap[b]? = some (.cells c T fr) ∧ Free fr c.size ∧ c.size = cp * sz ∧ m ≤ cp ∧ ∀ o, m * sz ≤ o → M.cell b o = none) := by
  cases h with
  | ownz => exact ⟨rfl, .inl ⟨rfl, rfl, rfl⟩⟩
  | own b cap _ _ c T fr hb hf hl hn hm => exact ⟨rfl, .inr ⟨b, c, T, fr, rfl, hb, hf, hl, hn, hm⟩⟩

theorem BLe.set {B : List GB} {l : Nat} {g g' : GB} (hl : B[l]? = some g) (hg : g.Le g') : BLe B (B.set l g') := by
  have hlb : l < B.length := by
    rcases Nat.lt_or_ge l B.length with h' | h'
    · exact h'
    · simp [List.getElem?_eq_none h'] at hl
  intro l' g1 h1
  by_cases e : l = l'
  · subst e
    rw [hl] at h1; simp at h1; subst h1
    exact ⟨g', by rw [List.getElem?_set_self hlb], hg⟩
  · exact ⟨g1, by rw [List.getElem?_set_ne e]; exact h1, GB.Le.refl _⟩

/-- The elements of what is appended, as cells. -/
def AppRel (M : Mem) (sz : Nat) (es : List (List AV)) (c : Array Value) : Prop :=
  c.size = es.length * sz ∧ (∀ e ∈ es, e.length = sz) ∧ ∀ (i j : Nat) (e : List AV) (a : AV), es[i]? = some e → e[j]? = some a → VRel M [] a (c.getD (i * sz + j) undef)

theorem mul_lt {i n j sz : Nat} (hi : i < n) (hj : j < sz) : i * sz + j < n * sz := by
  have := Nat.mul_le_mul_right sz (show i + 1 ≤ n from hi)
  rw [Nat.add_mul, Nat.one_mul] at this; omega

theorem range_div {k n sz : Nat} (h : k < n * sz) : k / sz < n ∧ k % sz < sz ∧ k = k / sz * sz + k % sz := by
  have hs : 0 < sz := by
    rcases Nat.eq_zero_or_pos sz with h0 | h0
    · subst h0; simp at h
    · exact h0
  refine ⟨Nat.div_lt_of_lt_mul (by rwa [Nat.mul_comm]), Nat.mod_lt _ hs, ?_⟩
  rw [Nat.mul_comm]; exact (Nat.div_add_mod k sz).symm

/-- The cells of a slice, loaded. -/
theorem run_first {P : Program} {M : Mem} {B : List GB} {w : World} {sz : Nat} {es : List (List AV)} {t : Tok} {x : Value} (hm : MemOk M w) (h : VRel M B (.sl sz es t) x) :
    ∃ c, (Builtin.firstCells sz es.length x).run P w = .ok c w ∧ AppRel M sz es c := by
  cases h with
  | slz => exact ⟨#[], rfl, by simp, by simp, fun i j e a h => by simp at h⟩
  | sl _ _ _ b off cap f hz hm' hr hc ht =>
    refine ⟨((List.range (es.length * sz)).map fun k => f (k / sz) (k % sz)).toArray, ?_, by simp, hz, fun i j e a hi hj => ?_⟩
    · simp only [Builtin.firstCells]
      refine run_loadCells w _ _ (fun k => f (k / sz) (k % sz)) fun k hk => ?_
      obtain ⟨h1, h2, h3⟩ := range_div hk
      rw [addr_add]
      have := hm.1 _ _ _ (hm' _ _ h1 h2)
      rw [show off + k = off + k / sz * sz + k % sz by omega]; exact this
    · have hi' : i < es.length := by
        rcases Nat.lt_or_ge i es.length with h | h
        · exact h
        · simp [List.getElem?_eq_none h] at hi
      have hl := hz e (List.mem_of_getElem? hi)
      have hj' : j < sz := by
        rcases Nat.lt_or_ge j e.length with h | h
        · omega
        · simp [List.getElem?_eq_none h] at hj
      have hlt := mul_lt hi' hj'
      have e1 : (i * sz + j) / sz = i := by
        rw [Nat.mul_comm, Nat.mul_add_div (by omega), Nat.div_eq_of_lt hj']; rfl
      have e2 : (i * sz + j) % sz = j := by
        rw [Nat.mul_comm, Nat.mul_add_mod, Nat.mod_eq_of_lt hj']
      have : (((List.range (es.length * sz)).map fun k => f (k / sz) (k % sz)).toArray).getD (i * sz + j) undef = f i j := by
        simp [hlt, e1, e2]
      rw [this]; exact hr i j e a hi hj

/-- What is appended: a slice's elements, or a string's bytes. -/
inductive AppSrc (T : Tab) (tx : TypeId) (sz : Nat) : AV → List (List AV) → Prop
  | sl {es : List (List AV)} {t : Tok} {e s1 b1 : Nat} {z : List Z} (ht : T.get tx = some ⟨.slice e, s1, b1, z⟩) (h1 : ∀ x ∈ es, x.all oneAV = true) : AppSrc T tx sz (.sl sz es t) es
  | nils {e s1 b1 : Nat} {z : List Z} (ht : T.get tx = some ⟨.slice e, s1, b1, z⟩) : AppSrc T tx sz .nils []
  | str {s : ByteArray} {s1 b1 : Nat} {z : List Z} (ht : T.get tx = some ⟨.str, s1, b1, z⟩) (h1 : sz = 1) : AppSrc T tx sz (.str s) (s.data.toList.map fun b => [.prim (.int .u8 b.toNat)])

theorem LOk.undSlice {P : Program} {t e : TypeId} {sz by' : Nat} {z : List Z} (h : LOk P t ⟨.slice e, sz, by', z⟩) : P.underlying t = some (.slice e) := by
  obtain ⟨d, h1, h2⟩ := h.und
  cases d <;> simp [ltOf] at h2
  subst h2; exact h1
theorem LOk.undStr {P : Program} {t : TypeId} {sz by' : Nat} {z : List Z} (h : LOk P t ⟨.str, sz, by', z⟩) : P.underlying t = some .string := by
  obtain ⟨d, h1, h2⟩ := h.und
  cases d <;> simp [ltOf] at h2
  exact h1

theorem AppSrc.src {P : Program} {T : Tab} (hT : T.Ok P) {tx : TypeId} {sz : Nat} {u : AV} {es : List (List AV)} (h : AppSrc T tx sz u es) {M : Mem} {B : List GB} {w : World} {x : Value} (hm : MemOk M w) (hx : VRel M B u x) :
    ∃ news, Src P sz tx x es.length news w ∧ AppRel M sz es news.toArray := by
  cases h with
  | nils ht => cases hx; exact ⟨[], Src.ofNil w (LOk.of (hT.get ht)).undSlice 0, by simp [AppRel]⟩
  | str ht h1 =>
    subst h1
    have := VRel.prim_eq hx
    subst this
    rename_i s _ _ _
    refine ⟨byteCells s, ?_, ?_⟩
    · have := Src.ofString (P := P) w (LOk.of (hT.get ht)).undStr s
      have e : s.size = (s.data.toList.map fun b => [AV.prim (.int .u8 b.toNat)]).length := by simp
      rwa [e] at this
    · refine ⟨by simp [byteCells], by simp, fun i j e a hi hj => ?_⟩
      simp only [List.getElem?_map, Option.map_eq_some_iff] at hi
      obtain ⟨b, hb, rfl⟩ := hi
      cases j with
      | succ j => simp at hj
      | zero =>
        simp at hj; subst hj
        have : (byteCells s).toArray.getD (i * 1 + 0) undef = .int .u8 b.toNat := by
          simp only [Nat.mul_one, Nat.add_zero, Array.getD_eq_getD_getElem?, List.getElem?_toArray, byteCells, List.getElem?_map, hb]
          rfl
        rw [this]; exact .prim _
  | sl ht h1 =>
    obtain ⟨c, hc1, hc2, hc3, hc4⟩ := run_first (P := P) hm hx
    obtain ⟨c', hc1', hc2', _, _⟩ := run_first (P := P) (w := w.drew) (M := M) ⟨hm.1, hm.2⟩ hx
    have hone : ∀ u ∈ c.toList, u.oneCell' = true := by
      intro u hu
      obtain ⟨k, hk, rfl⟩ := List.mem_iff_getElem.1 hu
      have hk' : k < es.length * sz := by rw [← hc2]; simpa using hk
      obtain ⟨g1, g2, g3⟩ := range_div hk'
      have hl := hc3 _ (List.getElem_mem g1)
      have := hc4 (k / sz) (k % sz) _ _ (List.getElem?_eq_getElem g1) (List.getElem?_eq_getElem (by omega : k % sz < (es[k / sz]).length))
      rw [← g3] at this
      have h2 := List.all_eq_true.1 (h1 _ (List.getElem_mem g1)) _ (List.getElem_mem (by omega : k % sz < (es[k / sz]).length))
      have h3 := oneAV_rel h2 this
      have hk2 : k < c.size := by simpa using hk
      simpa [hk2] using h3
    have same : c' = c := by
      have e1 := hc1
      have e2 := hc1'
      -- both are the cells of the same slice
      cases hx with
      | slz => simp [Builtin.firstCells] at e1 e2; rw [e1, e2]
      | sl _ _ _ b off cap f hz hm' hr hcc htt =>
        simp only [Builtin.firstCells] at e1 e2
        have l1 := run_loadCells (P := P) w ⟨b, off, none⟩ (es.length * sz) (fun k => f (k / sz) (k % sz)) (fun k hk => by
          obtain ⟨g1, g2, g3⟩ := range_div hk
          rw [addr_add, show off + k = off + k / sz * sz + k % sz by omega]; exact hm.1 _ _ _ (hm' _ _ g1 g2))
        have l2 := run_loadCells (P := P) w.drew ⟨b, off, none⟩ (es.length * sz) (fun k => f (k / sz) (k % sz)) (fun k hk => by
          obtain ⟨g1, g2, g3⟩ := range_div hk
          rw [addr_add, show off + k = off + k / sz * sz + k % sz by omega]; exact hm.1 _ _ _ (hm' _ _ g1 g2))
        rw [l1] at e1; rw [l2] at e2
        simp at e1 e2
        rw [← e1, ← e2]
    subst same
    refine ⟨c'.toList, ⟨.inl ⟨_, (LOk.of (hT.get ht)).undSlice⟩, fun w' => ?_, by simpa using hc1, by simpa using hc1', by simp [hc2], hone⟩, by simpa using ⟨hc2, hc3, hc4⟩⟩
    cases hx <;> rfl

theorem run_append_room' {P : Program} (w w' : World) (t tx ty e : TypeId) (i : TypeInfo) (ht : P.underlying t = some (.slice e)) (hi : P.info? e = some i) (b off sLen sCap : Nat) (x : Value) (n : Nat) (news : List Value) (hs : Src P i.size tx x n news w)
    (hroom : sLen + n ≤ sCap) (hst : (storeCells ⟨b, off + sLen * i.size, none⟩ news 0).run P w = .ok () w') :
    (Builtin.append_ #[t, tx] ty #[.slice (some ⟨b, off, none⟩) sLen sCap, x]).run P w = .ok (.slice (some ⟨b, off, none⟩) (sLen + n) sCap) w' := by
  rcases hs.kind with ⟨e', hk⟩ | hk <;> simp [Builtin.append_, run_underlying ht, run_underlying hk, sizeOf, typeInfo, hi, hs.len, hroom, hs.cells, Addr.add_lit, hst]

/-- A row of cells reads as elements, one behind the other. -/
theorem vrel_row {M : Mem} {B : List GB} {sz : Nat} {es : List (List AV)} {t : Tok} {b cap : Nat} {c : Array Value} (hz : ∀ e ∈ es, e.length = sz) (hc : es.length ≤ cap) (hm : ∀ o, o < es.length * sz → M.cell b o = some (c.getD o undef))
    (hr : ∀ (i j : Nat) (e : List AV) (a : AV), es[i]? = some e → e[j]? = some a → VRel M [] a (c.getD (i * sz + j) undef)) (ht : TokOk B t (some (b, 0)) es.length cap) : VRel M B (.sl sz es t) (.slice (some ⟨b, 0, none⟩) es.length cap) :=
  .sl sz es t b 0 cap (fun i j => c.getD (i * sz + j) undef) hz (fun i j hi hj => by rw [Nat.zero_add]; exact hm _ (mul_lt hi hj)) hr hc ht

theorem get_append2 {es es2 : List (List AV)} {sz : Nat} {M : Mem} {c1 c2 c : Array Value} (h1 : AppRel M sz es c1) (h2 : AppRel M sz es2 c2) (hc1 : ∀ o, o < es.length * sz → c.getD o undef = c1.getD o undef) (hc2 : ∀ o, o < es2.length * sz → c.getD (es.length * sz + o) undef = c2.getD o undef) :
    ∀ (i j : Nat) (e : List AV) (a : AV), (es ++ es2)[i]? = some e → e[j]? = some a → VRel M [] a (c.getD (i * sz + j) undef) := by
  intro i j e a hi hj
  rcases Nat.lt_or_ge i es.length with h | h
  · rw [List.getElem?_append_left h] at hi
    have hl := h1.2.1 e (List.mem_of_getElem? hi)
    have hj' : j < sz := by
      rcases Nat.lt_or_ge j e.length with h | h
      · omega
      · simp [List.getElem?_eq_none h] at hj
    rw [hc1 _ (mul_lt h hj')]
    exact h1.2.2 i j e a hi hj
  · rw [List.getElem?_append_right h] at hi
    have hl := h2.2.1 e (List.mem_of_getElem? hi)
    have hj' : j < sz := by
      rcases Nat.lt_or_ge j e.length with h | h
      · omega
      · simp [List.getElem?_eq_none h] at hj
    have hi' : i - es.length < es2.length := by
      rcases Nat.lt_or_ge (i - es.length) es2.length with h' | h'
      · exact h'
      · simp [List.getElem?_eq_none h'] at hi
    have := hc2 _ (mul_lt hi' hj')
    have e1 : es.length * sz + ((i - es.length) * sz + j) = i * sz + j := by
      rw [← Nat.add_assoc, ← Nat.add_mul]; congr 2; omega
    rw [e1] at this
    rw [this]
    exact h2.2.2 _ j e a hi hj

section
variable {P : Program} {n : Nat} {ops : Array Oper} {o : Oper} {env : Env} {σ : Store} {k : Env → Store → Prop} {T : Tab}

/-- append to a growing array of the call's own. -/
theorem EStep.appendOwn (hT : T.Ok P) {s x : Operand} {t tx e : TypeId} {d l sz : Nat} {es es2 : List (List AV)} {u : AV} {s1 b1 : Nat} {z : List Z} {le : LI} (ho : o.op = .call { callee := .builtin .append, args := #[s, x], argTypes := #[t, tx] })
    (hg : o.guard = none) (hd : o.dst = some d) (hdn : d < n) (hs : Rd env s (.sl sz es (.own l))) (hσ : σ[l]? = some (.own sz es.length)) (hx : Rd env x u) (hsrc : AppSrc T tx sz u es2)
    (hl : LOk P t ⟨.slice e, s1, b1, z⟩) (he : LOk P e le) (hsz : le.size = sz) (hz0 : le.zero.length = le.size) (hbound : (es.length + es2.length) * le.bytes ≤ 140737488355328) (hb2 : es.length + es2.length ≤ 9223372036854775807)
    (hk : k (env.put d (.sl sz (es ++ es2) (.own l))) (σ.set l (.own sz (es.length + es2.length)))) : EStep P n ops o k env σ := by
  refine EStep.plain hg fun G a w hr => ?_
  have h1 := hr.rd hs
  obtain ⟨news, hS, hN⟩ := hsrc.src hT hr.st.memok (hr.rd hx)
  generalize hA : a.eval s = sv at h1
  obtain ⟨i, hi1, hi2, hi3, hi4⟩ := he.info
  have hund := hl.undSlice
  have hS' : Src P i.size tx (a.eval x) es2.length news w := by rw [hi2, hsz]; exact hS
  have hNs : news.length = es2.length * sz := by have := hN.1; simpa using this
  -- the array's own place
  have hgb : ∃ g, G.B[l]? = some g := ⟨_, List.getElem?_eq_getElem (by
    rw [hr.st.len]
    rcases Nat.lt_or_ge l σ.length with h | h
    · exact h
    · simp [List.getElem?_eq_none h] at hσ)⟩
  obtain ⟨g, hgl⟩ := hgb
  have hobj := hr.st.objs l g _ hgl hσ
  have hzc : le.zeroVal.cells.size = sz := by
    unfold LI.zeroVal
    cases ha : le.lt.isAgg with
    | true => simp [Value.cells, hz0, hsz]
    | false =>
      obtain ⟨z', hz'⟩ := he.one ha
      rw [hz'] at hz0 ⊢
      simp at hz0
      rw [← hsz, ← hz0]
      cases z' <;> rfl
  -- what a new row comes to
  have grow : ∀ (base : Option Addr) (cap : Nat) (olds : List Value), a.eval s = .slice base es.length cap → AppRel G.M sz es olds.toArray → (Builtin.firstCells i.size es.length (.slice base es.length cap)).run P w.drew = .ok olds.toArray w.drew → cap < es.length + es2.length → g.Le (.own (some w.heap.size) (grownCap w (es.length + es2.length) cap e) (es.length + es2.length)) →
      o.wp P a w (fun a' w' => ∃ env' σ' G', k env' σ' ∧ G.Le G' ∧ ARel n G' env' σ' a' w') noQ := by
    intro base cap olds hsv hO hold hlt hgle
    have hrun := run_append_grow_src (P := P) w t tx o.type e i le.zeroVal hund hi1 (by rw [hi4]; rfl) base es.length cap olds hold (a.eval x) es2.length news hS' hlt (by omega) (growslice_fits hlt (by rw [hi3]; exact hbound))
    have hOs : olds.length = es.length * sz := by have := hO.1; simpa using this
    have hcapge : es.length + es2.length ≤ grownCap w (es.length + es2.length) cap e := by unfold grownCap Question.cut; exact Nat.le_add_right _ _
    generalize hrow : ((olds ++ news).toArray ++ Builtin.zeroCells le.zeroVal.cells (grownCap w (es.length + es2.length) cap e - (es.length + es2.length))) = row at hrun
    have hrowsz : row.size = grownCap w (es.length + es2.length) cap e * sz := by
      rw [← hrow]
      simp only [Array.size_append, List.size_toArray, List.length_append, size_zeroCells, hzc, hOs, hNs, ← Nat.add_mul]
      congr 1; omega
    have hrun2 : (execOp a.eval o).run P w = .ok (.value (.slice (some ⟨w.heap.size, 0, none⟩) (es.length + es2.length) (grownCap w (es.length + es2.length) cap e))) (w.drew.alloc (.cells row e)) := by
      simp [execOp, ho, resolve, invoke, builtin, hsv, hrun]
    unfold Oper.wp
    rw [hrun2]
    -- the first cells of the row
    have row1 : ∀ o, o < es.length * sz → row.getD o undef = olds.toArray.getD o undef := by
      intro o ho
      rw [← hrow]
      simp only [Array.getD_eq_getD_getElem?, List.append_toArray]
      rw [Array.getElem?_append_left (by simp; omega)]
      simp only [List.getElem?_toArray]
      rw [List.getElem?_append_left (by omega)]
    have row2 : ∀ o, o < es2.length * sz → row.getD (es.length * sz + o) undef = news.toArray.getD o undef := by
      intro o ho
      rw [← hrow]
      simp only [Array.getD_eq_getD_getElem?, List.append_toArray]
      rw [Array.getElem?_append_left (by simp; omega)]
      simp only [List.getElem?_toArray]
      rw [List.getElem?_append_right (by omega), hOs, Nat.add_sub_cancel_left]
    have hm0 := (mem_lt hr.st.memok _ (Nat.le_refl w.heap.size)).1
    let M' : Mem := { G.M with cell := fun b o => if b = w.heap.size then (if o < (es.length + es2.length) * sz then some (row.getD o undef) else none) else G.M.cell b o }
    have hle : G.M.Le M' := ⟨fun b o v hv => by
      show (if b = w.heap.size then _ else _) = _
      split
      · rename_i e; subst e; rw [hm0 o] at hv; cases hv
      · exact hv, fun _ _ h => h⟩
    have hheap : (w.drew.alloc (.cells row e)).heap[w.heap.size]? = some (.cells row e) := by rw [heap_alloc]; simp
    have hok : MemOk M' (w.drew.alloc (.cells row e)) := by
      refine ⟨fun b o v hv => ?_, fun b es' hb => ?_⟩
      · change (if b = w.heap.size then _ else _) = _ at hv
        split at hv
        · rename_i eb; subst eb
          split at hv
          · rename_i ho
            have hlt2 : o < row.size := by
              rw [hrowsz]
              exact Nat.lt_of_lt_of_le ho (Nat.mul_le_mul_right _ hcapge)
            simp only [World.cell?, hheap]
            simp at hv
            simp [hlt2, ← hv]
          · simp at hv
        · have h2 := hr.st.memok.1 _ _ _ hv
          have hlt2 := World.block_lt_of_cell? _ _ h2
          have : (w.drew.alloc (.cells row e)).cell? ⟨b, o, none⟩ = w.drew.cell? ⟨b, o, none⟩ := World.cell?_alloc_lt _ _ _ hlt2
          rw [this]; exact h2
      · obtain ⟨cl, h2⟩ := hr.st.memok.2 _ _ hb
        refine ⟨cl, ?_⟩
        rw [heap_alloc]
        split
        · rename_i eb; subst eb; simp at h2
        · exact h2
    have hcells : ∀ o, o < (es.length + es2.length) * sz → M'.cell w.heap.size o = some (row.getD o undef) := fun o ho => by
      show (if w.heap.size = w.heap.size then _ else _) = _
      rw [if_pos rfl, if_pos ho]
    have hs2 : SRel { G with M := M', B := G.B.set l (.own (some w.heap.size) (grownCap w (es.length + es2.length) cap e) (es.length + es2.length)) } (σ.set l (.own sz (es.length + es2.length))) (w.drew.alloc (.cells row e)) := by
      refine hr.st.regrow hgl hle hgle rfl (by simp) (fun k hk hk2 => by rw [heap_alloc]; simp [Nat.ne_of_lt hk2]; rfl) rfl (fun b hb o => if_neg hb) hok (.inr (Nat.le_refl _)) (by simp) ⟨rfl, rfl⟩ ?_
      exact .own w.heap.size _ sz _ row e (0, 0) hheap (by intro o _; simp) hrowsz hcapge fun o ho => by
        show (if w.heap.size = w.heap.size then _ else _) = _
        rw [if_pos rfl, if_neg (by omega)]
    have hG : G.Le { G with M := M', B := G.B.set l (.own (some w.heap.size) (grownCap w (es.length + es2.length) cap e) (es.length + es2.length)) } := ⟨rfl, rfl, hle, BLe.set hgl hgle⟩
    refine ⟨_, _, _, hk, hG, ?_⟩
    rw [hd]
    have hr' : ARel n { G with M := M', B := G.B.set l (.own (some w.heap.size) (grownCap w (es.length + es2.length) cap e) (es.length + es2.length)) } env (σ.set l (.own sz (es.length + es2.length))) a (w.drew.alloc (.cells row e)) := ⟨hr.size, hr.defers, fun i => (hr.vals i).mono hle (BLe.set hgl hgle), hs2⟩
    refine hr'.put hdn ?_
    have hO' : AppRel M' sz es olds.toArray := ⟨hO.1, hO.2.1, fun i j e a x y => (hO.2.2 i j e a x y).mono hle (BLe.refl _)⟩
    have hN' : AppRel M' sz es2 news.toArray := ⟨hN.1, hN.2.1, fun i j e a x y => (hN.2.2 i j e a x y).mono hle (BLe.refl _)⟩
    have := vrel_row (M := M') (B := G.B.set l (.own (some w.heap.size) (grownCap w (es.length + es2.length) cap e) (es.length + es2.length))) (sz := sz) (es := es ++ es2) (t := .own l) (b := w.heap.size) (cap := grownCap w (es.length + es2.length) cap e) (c := row)
      (fun e he => (List.mem_append.1 he).elim (hO.2.1 e) (hN.2.1 e)) (by simp; exact hcapge) (fun o ho => hcells o (by simpa using ho)) (get_append2 hO' hN' row1 row2)
      ⟨some w.heap.size, grownCap w (es.length + es2.length) cap e, es.length + es2.length, by rw [List.getElem?_set_self (by
        rcases Nat.lt_or_ge l G.B.length with h | h
        · exact h
        · simp [List.getElem?_eq_none h] at hgl)], by simp, fun _ => ⟨rfl, rfl⟩⟩
    simpa using this
  cases h1 with
  | slz sz t ht =>
    obtain ⟨ob, cp, nf, ht1, ht2, ht3⟩ := ht
    rw [hgl] at ht1; simp at ht1; subst ht1
    cases hobj with
    | own b cap sz n' c T' fr hb hf hlc hn hm =>
      -- an array that is not nil, at length 0, and a nil slice: they do not go together
      exact absurd (ht3 rfl).1 (by simp)
    | ownz sz =>
      by_cases hz : es2.length = 0
      · have hes2 : es2 = [] := List.eq_nil_of_length_eq_zero hz
        subst hes2
        have hnews : news = [] := List.eq_nil_of_length_eq_zero (by simpa using hNs)
        have hrun : (Builtin.append_ #[t, tx] o.type #[.slice none 0 0, a.eval x]).run P w = .ok (.slice none 0 0) w := by
          have hcc := hS'.cells
          have hll := hS'.len
          simp only [List.length_nil] at hcc hll
          rcases hS.kind with ⟨e', hk'⟩ | hk' <;> simp [Builtin.append_, run_underlying hund, run_underlying hk', sizeOf, typeInfo, hi1, hll, hcc]
        have hrun2 : (execOp a.eval o).run P w = .ok (.value (.slice none 0 0)) w := by simp [execOp, ho, resolve, invoke, builtin, hA, hrun]
        unfold Oper.wp
        rw [hrun2]
        refine ⟨_, _, G, hk, Gh.Le.refl G, ?_⟩
        rw [hd]
        have hset : σ.set l (.own sz (([] : List (List AV)).length + ([] : List (List AV)).length)) = σ := by
          apply List.ext_getElem?
          intro j
          by_cases hj : l = j
          · subst hj
            have : l < σ.length := by
              rcases Nat.lt_or_ge l σ.length with h | h
              · exact h
              · simp [List.getElem?_eq_none h] at hσ
            rw [List.getElem?_set_self this, hσ]; rfl
          · rw [List.getElem?_set_ne hj]
        rw [hset]
        exact hr.put hdn (.slz sz (.own l) ⟨none, 0, 0, hgl, Nat.le_refl _, fun _ => ⟨rfl, rfl⟩⟩)
      · exact grow none 0 [] hA ⟨by simp, by simp, fun i j e a h => by simp at h⟩ rfl (by simpa using Nat.pos_of_ne_zero hz) (.inr ⟨_, _, _, rfl, by simpa using Nat.pos_of_ne_zero hz⟩)
  | sl _ _ _ b off cap f hz hm hr' hc ht =>
    obtain ⟨ob, cp, nf, ht1, ht2, ht3⟩ := ht
    rw [hgl] at ht1; simp at ht1; subst ht1
    obtain ⟨rfl, ⟨rfl, rfl, h0⟩ | ⟨b', c, T', fr, rfl, hb, hf, hlc, hn, hmn⟩⟩ := hobj.own_inv
    · exact absurd (ht3 rfl).1 (by simp)
    · obtain ⟨q1, q2⟩ := ht3 rfl
      simp at q1
      obtain ⟨rfl, rfl⟩ := q1
      subst q2
      obtain ⟨oldc, hO1, hO2⟩ := run_first (P := P) hr.st.memok (VRel.sl (B := G.B) sz es .no b 0 cap f hz hm hr' hc trivial)
      obtain ⟨oldc', hO1', hO2'⟩ := run_first (P := P) (w := w.drew) ⟨hr.st.memok.1, hr.st.memok.2⟩ (VRel.sl (B := G.B) sz es .no b 0 cap f hz hm hr' hc trivial)
      by_cases hroom : es.length + es2.length ≤ cap
      · -- there is room
        have hcs : (es.length + es2.length) * sz ≤ c.size := by rw [hlc]; exact Nat.mul_le_mul_right _ hroom
        rw [Nat.add_mul] at hcs
        obtain ⟨w', c', r1, r2, r3, r4, r5, r6, rout⟩ := run_storeCells (P := P) (b := b) (off := es.length * sz) (T := T') (fr := fr) news 0 c w hb hf hS.one (by omega)
        have hrun := run_append_room' (P := P) w w' t tx o.type e i hund hi1 b 0 es.length cap (a.eval x) es2.length news hS' hroom (by rw [hi2, hsz, Nat.zero_add]; exact r1)
        have hrun2 : (execOp a.eval o).run P w = .ok (.value (.slice (some ⟨b, 0, none⟩) (es.length + es2.length) cap)) w' := by simp [execOp, ho, resolve, invoke, builtin, hA, hrun]
        unfold Oper.wp
        rw [hrun2]
        simp only [Nat.add_zero] at r6
        let M' : Mem := { G.M with cell := fun b2 o => if b2 = b then (if o < (es.length + es2.length) * sz then some (c'.getD o undef) else none) else G.M.cell b2 o }
        have hold : ∀ o v, G.M.cell b o = some v → o < es.length * sz ∧ c'.getD o undef = v := by
          intro o v hv
          have hlt : o < es.length * sz := by
            rcases Nat.lt_or_ge o (es.length * sz) with h | h
            · exact h
            · rw [hmn o h] at hv; cases hv
          refine ⟨hlt, ?_⟩
          rw [r6 o, if_neg (by omega)]
          have h2 := hr.st.memok.1 _ _ _ hv
          simp only [World.cell?, hb] at h2
          simp at h2
          simp [h2]
        have hle : G.M.Le M' := ⟨fun b2 o v hv => by
          show (if b2 = b then _ else _) = _
          split
          · rename_i e2; subst e2
            obtain ⟨g1, g2⟩ := hold o v hv
            rw [if_pos (by rw [Nat.add_mul]; omega), g2]
          · exact hv, fun _ _ h => h⟩
        have hmapb : G.M.map b = none := mem_of_notmap hr.st.memok hb (by intros; simp)
        have hok : MemOk M' w' := by
          refine ⟨fun b2 o v hv => ?_, fun b2 es' hb2' => ?_⟩
          · change (if b2 = b then _ else _) = _ at hv
            split at hv
            · rename_i e2; subst e2
              split at hv
              · rename_i ho2
                rw [Nat.add_mul] at ho2
                have hlt2 : o < c'.size := by rw [r5]; omega
                simp at hv
                simp only [World.cell?, r4]
                simp [hlt2, ← hv]
              · simp at hv
            · rename_i e2
              have h2 := hr.st.memok.1 _ _ _ hv
              simp only [World.cell?] at h2 ⊢
              rw [r3 _ e2]; exact h2
          · have hne : b2 ≠ b := fun e2 => by subst e2; rw [show M'.map b2 = G.M.map b2 from rfl, hmapb] at hb2'; cases hb2'
            obtain ⟨cl, h2⟩ := hr.st.memok.2 _ _ hb2'
            exact ⟨cl, by rw [r3 _ hne]; exact h2⟩
        have hgle : (GB.own (some b) cap es.length).Le (.own (some b) cap (es.length + es2.length)) := by
          by_cases hz2 : es2.length = 0
          · rw [hz2]; exact .inl rfl
          · exact .inr ⟨_, _, _, rfl, by omega⟩
        have hblt := (hr.st.fresh l _ b hgl rfl).2
        have hs2 : SRel { G with M := M', B := G.B.set l (.own (some b) cap (es.length + es2.length)) } (σ.set l (.own sz (es.length + es2.length))) w' := by
          refine hr.st.regrow hgl hle hgle rfl (by omega) (fun k hk _ => r3 k hk) rfl (fun b2 hb2' o => if_neg hb2') hok (.inl rfl) (by omega) rout ?_
          exact .own b cap sz _ c' T' fr r4 (by rw [r5]; exact hf) (by rw [r5, hlc]) hroom fun o ho2 => by
            show (if b = b then _ else _) = _
            rw [if_pos rfl, if_neg (by omega)]
        have hG : G.Le { G with M := M', B := G.B.set l (.own (some b) cap (es.length + es2.length)) } := ⟨rfl, rfl, hle, BLe.set hgl hgle⟩
        refine ⟨_, _, _, hk, hG, ?_⟩
        rw [hd]
        have hr2 : ARel n { G with M := M', B := G.B.set l (.own (some b) cap (es.length + es2.length)) } env (σ.set l (.own sz (es.length + es2.length))) a w' := ⟨hr.size, hr.defers, fun i => (hr.vals i).mono hle (BLe.set hgl hgle), hs2⟩
        refine hr2.put hdn ?_
        have hOc : AppRel M' sz es oldc := ⟨hO2.1, hO2.2.1, fun i j e a x y => (hO2.2.2 i j e a x y).mono hle (BLe.refl _)⟩
        have hN' : AppRel M' sz es2 news.toArray := ⟨hN.1, hN.2.1, fun i j e a x y => (hN.2.2 i j e a x y).mono hle (BLe.refl _)⟩
        -- the old cells
        have hoc : ∀ o, o < es.length * sz → c'.getD o undef = oldc.getD o undef := by
          intro o ho2
          obtain ⟨g1, g2, g3⟩ := range_div ho2
          have hcell := hm _ _ g1 g2
          rw [Nat.zero_add, ← g3] at hcell
          rw [(hold o _ hcell).2]
          have l1 := run_loadCells (P := P) w ⟨b, 0, none⟩ (es.length * sz) (fun k => f (k / sz) (k % sz)) (fun k hk => by
            obtain ⟨g1, g2, g3⟩ := range_div hk
            rw [addr_add, show 0 + k = 0 + k / sz * sz + k % sz by omega]; exact hr.st.memok.1 _ _ _ (hm _ _ g1 g2))
          simp only [Builtin.firstCells] at hO1
          rw [l1] at hO1
          simp at hO1
          rw [← hO1]
          simp [ho2]
        have hnc : ∀ o, o < es2.length * sz → c'.getD (es.length * sz + o) undef = news.toArray.getD o undef := by
          intro o ho2
          rw [r6, if_pos (by omega), Nat.add_sub_cancel_left]
          simp [List.getD]
        have := vrel_row (M := M') (B := G.B.set l (.own (some b) cap (es.length + es2.length))) (sz := sz) (es := es ++ es2) (t := .own l) (b := b) (cap := cap) (c := c')
          (fun e he => (List.mem_append.1 he).elim (hO2.2.1 e) (hN.2.1 e)) (by simpa using hroom) (fun o ho2 => by
            show (if b = b then _ else _) = _
            rw [if_pos rfl, if_pos (by simpa using ho2)]) (get_append2 hOc hN' hoc hnc)
          ⟨some b, cap, es.length + es2.length, by rw [List.getElem?_set_self (by
            rcases Nat.lt_or_ge l G.B.length with h | h
            · exact h
            · simp [List.getElem?_eq_none h] at hgl)], by simp, fun _ => ⟨rfl, rfl⟩⟩
        simpa using this
      · refine grow _ cap oldc'.toList hA (by simpa using hO2') (by rw [hi2, hsz]; simpa using hO1') (by omega) (.inr ⟨_, _, _, rfl, by omega⟩)
end
end Go.Ab
