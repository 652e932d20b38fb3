/- From a row's readings to contents, and from a contract by content to a row. -/
import Derived.Test.YtjjlckhdgnoopaaAb15
import Derived.WalkKit
import Derived.ProofKit
import Derived.OpenShut
import Derived.ShutString
import Derived.ChangeOld
import Derived.Below
import Derived.Carry
import Derived.Deep.Slices
import Derived.Deep.Strs
import Derived.Lib.SmallJoins
namespace Go.Ab
open Go.ChangeShapes Go.WideShapes

/-- Of what was there nothing has turned. -/
structure Kept (W W' : World) : Prop where
  out : W'.os = W.os ∧ W'.output = W.output
  size : W.heap.size ≤ W'.heap.size
  block : ∀ b, b < W.heap.size → W'.heap[b]? = W.heap[b]?

theorem Kept.frame {W W' : World} (h : Kept W W') (may : MemPlace → Prop) : W.keptBut W' may := by
  refine ⟨h.out.1, h.out.2, fun i hi => ?_⟩
  rw [h.block i hi]
  split <;> simp_all

theorem Kept.same {W W' : World} (h : Kept W W') {p : MemPlace} (hp : p.block < W.heap.size) : W.sameAt W' p := by
  cases p with
  | cell b o => exact World.cell?_of_block (w := W) (h.block b hp)
  | map b => exact h.block b hp

theorem Kept.trod {H : Type} {enc : TypeId × Value → H} {P : Program} {t : TypeId} (hl : laidOutB P = true) (hr : P.readableRec t = true) (hrow : t < P.types.size) {W W' : World} {v : Value} {d : DataW H} {ps : List MemPlace}
    (h : DataW.Trod enc P W 0 (fun _ => true) true t v d ps) (hb : Kept W W') : DataW.Trod enc P W' 0 (fun b => decide (b < W.heap.size)) true t v d ps := by
  have hlt : ∀ x ∈ ps, x.block < W.heap.size := by obtain ⟨m, hm⟩ := h; exact DataW.trod_lt m _ _ _ hm
  exact WideElems.Trod_stays hl hr hrow h (fun x hx => hb.same (hlt x hx)) (fun x hx => by simpa using hlt x hx)

theorem PCall.kept {P : Program} {f : FuncId} {avs : List AV} {b : Bool} (h : PCall P f avs (.b b)) (W : World) {args : Array Value} (ha : ArgsRel (memOf W) avs args) :
    Calls P f args W fun e W' => e = .returned (.bool b) ∧ Kept W W' := by
  unfold PCall at h
  refine (h.2 (memOf W) W args (memOf_ok W) ha).mono ?_
  rintro e W' ⟨v, M', rfl, hv, hp⟩
  rw [VRel.prim_eq hv]
  exact ⟨rfl, ⟨hp.out, hp.size, hp.heap⟩⟩

/-- Values that read so, one by one. -/
inductive Reads (M : Mem) : List AV → List Value → Prop
  | nil : Reads M [] []
  | cons {a : AV} {v : Value} {as : List AV} {vs : List Value} (h : VRel M [] a v) (t : Reads M as vs) : Reads M (a :: as) (v :: vs)
theorem Reads.args {M : Mem} {avs : List AV} {vs : List Value} (h : Reads M avs vs) : ArgsRel M avs vs.toArray := by
  have h1 : vs.length = avs.length := by induction h with
    | nil => rfl
    | cons _ _ ih => simp [ih]
  refine ⟨by simpa using h1, ?_⟩
  induction h with
  | nil => intro i c hi; simp at hi
  | cons h t ih =>
    intro i c hi
    cases i with
    | zero => simp at hi; subst hi; simpa using h
    | succ i =>
      have := ih (by simpa using h1) i c (by simpa using hi)
      simpa [Array.getD_eq_getD_getElem?] using this

section
variable {H : Type} {enc : TypeId × Value → H} {P : Program} {w : World} {base : Nat} {held : Bool} {spare : Nat → Bool}

/-- A slice, by its elements' readings. -/
theorem slice_rel {α : Type} [Inhabited α] (f : α → List AV) (good : α → Prop) {t e : TypeId} {sz fuel : Nat} {v : Value} {x : DataW H × List MemPlace} (ht : P.underlying t = some (.slice e)) (hsz : P.cellsOf e = sz) (hpos : 0 < sz)
    (elem : ∀ (n : Nat) (cs : List Value) (y : DataW H × List MemPlace), DataW.trod enc P w base spare held n e cs = some y → ∃ a : α, (f a).length = sz ∧ (∀ (j : Nat) c, (f a)[j]? = some c → VRel (memOf w) [] c (cs.getD j undef)) ∧ good a)
    (hspot : ∀ a len cap, v = .slice (some a) len cap → a.spot = none)
    (h : DataW.trod enc P w base spare held fuel t [v] = some x) : ∃ al : List α, VRel (memOf w) [] (.sl sz (al.map f) .no) v ∧ al.length ≤ maxLen ∧ ∀ a ∈ al, good a := by
  rcases Deep.open_slice ht h with ⟨hc, _⟩ | ⟨a, len, cap, m, n, D, Pl, hc, _, hl, hm, hmm, _, hx⟩
  · simp at hc; subst hc
    exact ⟨[], .slz sz .no trivial, by simp, fun a ha => by simp at ha⟩
  · simp only [List.cons.injEq, and_true] at hc; subst hc
    have hle : len ≤ m := by rw [hmm]; split <;> omega
    rw [hsz] at hx
    obtain ⟨A, hA⟩ := Deep.choose_lt (n := len) (p := fun i (a' : α) => ∃ cs', w.cells? base (a.add (i * sz)) sz = some cs' ∧ (f a').length = sz ∧ (∀ (j : Nat) c, (f a')[j]? = some c → VRel (memOf w) [] c (cs'.getD j undef)) ∧ good a') (fun i hi => by
      obtain ⟨cs', h1, h2⟩ := hx i (by omega)
      obtain ⟨a', g1, g2, g3⟩ := elem _ _ _ h2
      exact ⟨a', cs', h1, g1, g2, g3⟩)
    obtain ⟨b, off, sp⟩ := a
    have hs : sp = none := hspot _ _ _ rfl
    subst hs
    have hadd : ∀ k, (⟨b, off, none⟩ : Addr).add k = ⟨b, off + k, none⟩ := fun k => by
      unfold Addr.add; split
      · rename_i h0; subst h0; rfl
      · rfl
    have cellAt : ∀ i j, i < len → j < sz → ∃ cs', w.cells? base ((⟨b, off, none⟩ : Addr).add (i * sz)) sz = some cs' ∧ w.cell? ⟨b, off + i * sz + j, none⟩ = cs'[j]? ∧ cs'.length = sz ∧ (∀ (j : Nat) c, (f (A i))[j]? = some c → VRel (memOf w) [] c (cs'.getD j undef)) := by
      intro i j hi hj
      obtain ⟨cs', h1, h2, h3, _⟩ := hA i hi
      obtain ⟨_, h4, h5⟩ := World.cells?_some h1
      refine ⟨cs', h1, ?_, h4, h3⟩
      have := h5 j hj
      rw [hadd] at this
      rw [← this]
      congr 1
      unfold Addr.add
      split
      · rename_i h0; subst h0; rfl
      · simp
    refine ⟨(List.range len).map A, ?_, by simp; omega, fun a' ha => ?_⟩
    · have hlen : (((List.range len).map A).map f).length = len := by simp
      have := VRel.sl (M := memOf w) (B := []) sz (((List.range len).map A).map f) .no b off cap (fun i j => (w.cell? ⟨b, off + i * sz + j, none⟩).getD undef) ?_ ?_ ?_ (by rw [hlen]; exact hl) trivial
      · rwa [hlen] at this
      · intro es hes
        simp only [List.map_map, List.mem_map, List.mem_range] at hes
        obtain ⟨i, hi, rfl⟩ := hes
        exact (hA i hi).choose_spec.2.1
      · intro i j hi hj
        rw [hlen] at hi
        obtain ⟨cs', _, h2, h3, _⟩ := cellAt i j hi hj
        have hlt : j < cs'.length := by omega
        show w.cell? _ = _
        rw [h2, List.getElem?_eq_getElem hlt]; rfl
      · intro i j es c h1 h2
        have hi : i < len := by
          rcases Nat.lt_or_ge i len with h | h
          · exact h
          · rw [List.getElem?_eq_none (by rw [hlen]; exact h)] at h1; cases h1
        simp [hi] at h1
        subst h1
        have hj : j < sz := by
          rw [← (hA i hi).choose_spec.2.1]
          rcases Nat.lt_or_ge j (f (A i)).length with h | h
          · exact h
          · rw [List.getElem?_eq_none h] at h2; cases h2
        obtain ⟨cs', _, h3, h4, h5⟩ := cellAt i j hi hj
        have := h5 j c h2
        rw [h3]
        exact this
    · simp only [List.mem_map, List.mem_range] at ha
      obtain ⟨i, hi, rfl⟩ := ha
      exact (hA i hi).choose_spec.2.2.2

theorem LOk.und_int {t : TypeId} {k : IntKind} {s1 b1 : Nat} {z : List Z} (hl : LOk P t ⟨.int k, s1, b1, z⟩) : P.underlying t = some (.int k) := by
  obtain ⟨d, h1, h2⟩ := hl.und
  cases d <;> simp [ltOf] at h2
  subst h2; exact h1
theorem LOk.und_str {t : TypeId} {s1 b1 : Nat} {z : List Z} (hl : LOk P t ⟨.str, s1, b1, z⟩) : P.underlying t = some .string := by
  obtain ⟨d, h1, h2⟩ := hl.und
  cases d <;> simp [ltOf] at h2
  exact h1
theorem LOk.und_bool {t : TypeId} {s1 b1 : Nat} {z : List Z} (hl : LOk P t ⟨.bool, s1, b1, z⟩) : P.underlying t = some .bool := by
  obtain ⟨d, h1, h2⟩ := hl.und
  cases d <;> simp [ltOf] at h2
  exact h1
theorem LOk.und_slice {t e : TypeId} {s1 b1 : Nat} {z : List Z} (hl : LOk P t ⟨.slice e, s1, b1, z⟩) : P.underlying t = some (.slice e) := by
  obtain ⟨d, h1, h2⟩ := hl.und
  cases d <;> simp [ltOf] at h2
  subst h2; exact h1

theorem int_rd {t : TypeId} {k : IntKind} {s1 b1 fuel : Nat} {z : List Z} {cs : List Value} {x : DataW H × List MemPlace} (hl : LOk P t ⟨.int k, s1, b1, z⟩) (h : DataW.trod enc P w base spare held fuel t cs = some x) : ∃ n, cs = [.int k n] ∧ (Lit.int k n).wf = true := by
  obtain ⟨n, h1, _, h3⟩ := DataW.trod_int hl.und_int h
  exact ⟨n, h1, h3⟩
theorem str_rd {t : TypeId} {s1 b1 fuel : Nat} {z : List Z} {cs : List Value} {x : DataW H × List MemPlace} (hl : LOk P t ⟨.str, s1, b1, z⟩) (h : DataW.trod enc P w base spare held fuel t cs = some x) : ∃ s, cs = [.string s] ∧ s.size ≤ maxLen := by
  obtain ⟨s, h1, _, h3⟩ := DataW.trod_string hl.und_str h
  exact ⟨s, h1, h3⟩

/-- A struct's fields, each by its own reading. -/
theorem struct_rd {t : TypeId} {fs : List (Nat × Nat × Nat)} {s1 b1 fuel : Nat} {z : List Z} {cs : List Value} {x : DataW H × List MemPlace} (hl : LOk P t ⟨.struct fs, s1, b1, z⟩) (h : DataW.trod enc P w base spare held fuel t cs = some x) :
    cs.length = P.cellsOf t ∧ ∃ n, ∀ (i : Nat) ft off sz, fs[i]? = some (ft, off, sz) → ∃ y, DataW.trod enc P w base spare held n ft ((cs.drop off).take (P.cellsOf ft)) = some y := by
  obtain ⟨d, h1, h2⟩ := hl.und
  cases d <;> simp [ltOf] at h2
  rename_i F
  obtain ⟨xs, n, _, _, hlen, hxl, hf⟩ := DataW.trod_struct h1 h
  refine ⟨hlen, n, fun i ft off sz hi => ?_⟩
  rw [← h2] at hi
  simp only [List.getElem?_map, Option.map_eq_some_iff] at hi
  obtain ⟨f, hfi, hfe⟩ := hi
  simp only [Prod.mk.injEq] at hfe
  obtain ⟨rfl, rfl, _⟩ := hfe
  have hlt : i < F.toList.length := by
    rcases Nat.lt_or_ge i F.toList.length with h | h
    · exact h
    · rw [List.getElem?_eq_none h] at hfi; cases hfi
  have := hf i f (by simpa using hfi)
  have hlt2 : i < xs.length := by rw [hxl]; simpa using hlt
  exact ⟨xs[i], by rw [this, List.getElem?_eq_getElem hlt2]⟩

/-- A slice in a struct that is handed in has no place of its own kind. -/
theorem struct_ok {r : Reach} {b0 : Nat} {t : TypeId} {fs : List (Nat × Nat × Nat)} {s1 b1 : Nat} {z : List Z} {v : Value} {ts : List TypeId} (hl : LOk P t ⟨.struct fs, s1, b1, z⟩) (hct : P.cellTypes P.depth t = some ts) (hv : Value.okWide P w r b0 t v) :
    ∃ cs, v = .agg cs ∧ cs.size = P.cellsOf t ∧ ∀ (i : Nat) u e a len cap, i < ts.length → ts[i]? = some u → P.underlying u = some (.slice e) → cs[i]? = some (.slice (some a) len cap) → a.spot = none := by
  obtain ⟨d, h1, h2⟩ := hl.und
  cases d <;> simp [ltOf] at h2
  unfold Value.okWide at hv
  rw [h1] at hv
  obtain ⟨cs, rfl, hsz, ts', ht', _, hc⟩ := hv
  rw [hct] at ht'
  simp only [Option.some.injEq] at ht'; subst ht'
  refine ⟨cs, rfl, hsz, fun i u e a len cap hi hu hun hcs => ?_⟩
  obtain ⟨u', hu', hok⟩ := hc i _ hcs
  rw [Nat.mod_eq_of_lt hi, hu] at hu'
  simp only [Option.some.injEq] at hu'; subst hu'
  unfold Cell.okWide at hok
  simp only [hun] at hok
  unfold Cell.ok at hok
  simp only [hun] at hok
  exact hok.2.2.2.1
end
end Go.Ab
