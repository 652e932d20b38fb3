/- Loops by lists of slots; growing arrays that begin as nil. -/
import Derived.Test.YtjjlckhdgnoopaaAb10
namespace Go.Ab

def Env.of (l : List (Nat × AV)) : Env := fun i => match l.find? (fun p => p.1 == i) with | some p => p.2 | none => .any
def WeakL (env : Env) : List (Nat × AV) → Prop
  | [] => True
  | (i, v) :: r => env i = v ∧ WeakL env r
theorem WeakL.mem {env : Env} : ∀ {l : List (Nat × AV)}, WeakL env l → ∀ p ∈ l, env p.1 = p.2
  | _ :: _, h, p, hp => by
    rcases List.mem_cons.1 hp with rfl | hp
    · exact h.1
    · exact WeakL.mem h.2 p hp
theorem WeakL.weak {env : Env} {l : List (Nat × AV)} (h : WeakL env l) : env.Weak (Env.of l) := by
  intro M B i x hx
  unfold Env.of
  cases hf : l.find? (fun p => p.1 == i) with
  | none => exact .any _
  | some p =>
    have h1 := List.find?_some hf
    simp at h1
    have := h.mem p (List.mem_of_find?_eq_some hf)
    rw [h1] at this
    simp only
    rw [← this]; exact hx

section
variable {P : Program} {n : Nat} {K : Exit → Env → Store → Prop} {env : Env} {σ : Store}

/-- A loop, by the slots that count at its head. -/
theorem AWP.loopW {c : Code} {ι : Type} (E : ι → List (Nat × AV)) (S : ι → Store) (inv : ι → Prop) (μ : ι → Nat) (i0 : ι) (h0 : inv i0) (hE : WeakL env (E i0)) (hS : σ = S i0)
    (round : ∀ i, inv i → AWP P n c (thenK (fun e s => ∃ j, inv j ∧ μ j < μ i ∧ WeakL e (E j) ∧ s = S j) K) (Env.of (E i)) (S i)) : AWP P n (.loop c) K env σ := by
  refine AWP.loop (fun i => Env.of (E i)) S inv μ i0 h0 hE.weak hS fun i hi => ?_
  refine AWP.mono (round i hi) ?_
  intro x e s h
  cases x with
  | normal => obtain ⟨j, h1, h2, h3, h4⟩ := h; exact ⟨j, h1, h2, h3.weak, h4⟩
  | _ => exact h

/-- Only these slots count from here on. -/
theorem AWP.keep {c : Code} (l : List (Nat × AV)) (h : WeakL env l) (hk : AWP P n c K (Env.of l) σ) : AWP P n c K env σ := AWP.weaken h.weak hk

/-- A nil slice, as a growing array of the call's own. -/
theorem AWP.ownNil {c : Code} {d sz : Nat} (hd : env d = .nils) (hk : AWP P n c K (env.put d (.sl sz [] (.own σ.length))) (σ ++ [.own sz 0])) : AWP P n c K env σ := by
  intro G a w hr
  have hs : SRel { G with B := G.B ++ [.own none 0 0] } (σ ++ [.own sz 0]) w := by
    have hb : BLe G.B (G.B ++ [.own none 0 0]) := BLe.append _ _
    have new : ∀ (l : Nat) (g : GB), (G.B ++ [GB.own none 0 0])[l]? = some g → l < G.B.length ∧ G.B[l]? = some g ∨ l = G.B.length ∧ g = .own none 0 0 := by
      intro l g h
      rcases Nat.lt_or_ge l G.B.length with hlt | hge
      · rw [List.getElem?_append_left hlt] at h; exact .inl ⟨hlt, h⟩
      · rw [List.getElem?_append_right hge] at h
        have hz : l - G.B.length = 0 := by
          rcases Nat.eq_zero_or_pos (l - G.B.length) with hz | hp
          · exact hz
          · rw [List.getElem?_eq_none (by simp; omega)] at h; simp at h
        rw [hz] at h; simp at h
        exact .inr ⟨by omega, h.symm⟩
    refine ⟨hr.st.memok, hr.st.m0, hr.st.base, by simp [hr.st.len], fun l g o h1 h2 => ?_, fun l g b h1 h2 => ?_, fun l l' g g' b h1 h2 h3 h4 => ?_, hr.st.out⟩
    · rcases new l g h1 with ⟨hlt, h1⟩ | ⟨rfl, rfl⟩
      · rw [List.getElem?_append_left (by rw [← hr.st.len]; exact hlt)] at h2
        exact (hr.st.objs l g o h1 h2).keep hb fun b _ => rfl
      · rw [List.getElem?_append_right (by rw [← hr.st.len]; exact Nat.le_refl _)] at h2
        simp [hr.st.len] at h2; subst h2
        exact .ownz sz
    · rcases new l g h1 with ⟨_, h1⟩ | ⟨_, rfl⟩
      · exact hr.st.fresh l g b h1 h2
      · simp [GB.block] at h2
    · rcases new l g h1 with ⟨_, h1⟩ | ⟨_, rfl⟩
      · rcases new l' g' h2 with ⟨_, h2⟩ | ⟨_, rfl⟩
        · exact hr.st.inj l l' g g' b h1 h2 h3 h4
        · simp [GB.block] at h4
      · simp [GB.block] at h3
  have hr' : ARel n { G with B := G.B ++ [.own none 0 0] } (env.put d (.sl sz [] (.own σ.length))) (σ ++ [.own sz 0]) a w := by
    refine ⟨hr.size, hr.defers, fun i => ?_, hs⟩
    simp only [Env.put]
    split
    · rename_i e; subst e
      have := hr.vals i
      rw [hd] at this
      cases hx : a.tmps.getD i undef <;> rw [hx] at this <;> cases this
      exact .slz sz _ ⟨none, 0, 0, by simp [← hr.st.len], Nat.le_refl _, fun _ => ⟨rfl, rfl⟩⟩
    · exact (hr.vals i).mono (Mem.Le.refl _) (BLe.append _ _)
  refine wp_mono (hk _ a w hr') ?_
  rintro x a' w' ⟨e, s, G', h1, h2, h3⟩
  exact ⟨e, s, G', h1, Gh.Le.trans (G' := { G with B := G.B ++ [.own none 0 0] }) ⟨rfl, rfl, Mem.Le.refl _, BLe.append _ _⟩ h2, h3⟩
end

/-! ### Plain words on lists -/
def inB (n lo hi : Int) : Bool := decide (lo ≤ n) && decide (n ≤ hi)
/-- The first index at which p holds, or -1. -/
def findI {α : Type} (p : α → Bool) (l : List α) : Int := match l.findIdx? p with
  | some i => (i : Int)
  | none => -1
theorem getD_lt {α : Type} [Inhabited α] {l : List α} {k : Nat} (h : k < l.length) : l.getD k default = l[k] := by simp [List.getD, h]
theorem findI_at {α : Type} [Inhabited α] {p : α → Bool} {l : List α} {k : Nat} (hk : k < l.length) (h : p (l.getD k default) = true) (hall : ∀ j, j < k → p (l.getD j default) = false) : findI p l = k := by
  unfold findI
  have : l.findIdx? p = some k := by
    rw [List.findIdx?_eq_some_iff_getElem]
    refine ⟨hk, by rw [← getD_lt hk]; exact h, fun j hj => ?_⟩
    have := hall j hj
    rw [getD_lt (by omega)] at this
    simpa using this
  rw [this]
theorem findI_no {α : Type} [Inhabited α] {p : α → Bool} {l : List α} (hall : ∀ j, j < l.length → p (l.getD j default) = false) : findI p l = -1 := by
  unfold findI
  have : l.findIdx? p = none := by
    rw [List.findIdx?_eq_none_iff]
    intro x hx
    obtain ⟨j, hj, rfl⟩ := List.mem_iff_getElem.1 hx
    have := hall j hj
    rwa [getD_lt hj] at this
  rw [this]
theorem findI_neg {α : Type} {p : α → Bool} {l : List α} : findI p l < 0 ↔ findI p l = -1 := by
  unfold findI; split <;> omega
theorem findI_lt {α : Type} [Inhabited α] {p : α → Bool} {l : List α} (h : 0 ≤ findI p l) : ∃ k : Nat, findI p l = k ∧ k < l.length ∧ p (l.getD k default) = true ∧ ∀ j, j < k → p (l.getD j default) = false := by
  unfold findI at h ⊢
  cases hf : l.findIdx? p with
  | none => rw [hf] at h; simp at h
  | some i =>
    obtain ⟨h1, h2, h3⟩ := List.findIdx?_eq_some_iff_getElem.1 hf
    refine ⟨i, rfl, h1, by rw [getD_lt h1]; exact h2, fun j hj => ?_⟩
    rw [getD_lt (by omega)]; simpa using h3 j hj
theorem all_no {α : Type} [Inhabited α] {p : α → Bool} {l : List α} {k : Nat} (hk : k < l.length) (h : p (l.getD k default) = false) : l.all p = false := by
  rw [List.all_eq_false]
  exact ⟨l[k], List.getElem_mem hk, by rw [getD_lt hk] at h; simp [h]⟩
theorem all_yes {α : Type} [Inhabited α] {p : α → Bool} {l : List α} (h : ∀ j, j < l.length → p (l.getD j default) = true) : l.all p = true := by
  rw [List.all_eq_true]
  intro x hx
  obtain ⟨j, hj, rfl⟩ := List.mem_iff_getElem.1 hx
  have := h j hj
  rwa [getD_lt hj] at this
theorem allR_no {p : Nat → Bool} {n k : Nat} (hk : k < n) (h : p k = false) : (List.range n).all p = false := by
  rw [List.all_eq_false]; exact ⟨k, List.mem_range.2 hk, by simp [h]⟩
theorem allR_yes {p : Nat → Bool} {n : Nat} (h : ∀ j, j < n → p j = true) : (List.range n).all p = true := by
  rw [List.all_eq_true]; intro x hx; exact h x (List.mem_range.1 hx)
theorem lt_succ_cases {P : Nat → Prop} {k j : Nat} (h : ∀ j, j < k → P j) (hk : P k) (hj : j < k + 1) : P j := by
  rcases Nat.lt_or_ge j k with h1 | h1
  · exact h j h1
  · have : j = k := by omega
    subst this; exact hk
end Go.Ab
