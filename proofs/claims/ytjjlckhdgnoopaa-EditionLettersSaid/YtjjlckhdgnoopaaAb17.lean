/- A nil slice in a variable becomes a growing array. -/
import Derived.Test.YtjjlckhdgnoopaaAb16
namespace Go.Ab
variable {P : Program} {n : Nat} {K : Exit → Env → Store → Prop} {env : Env} {σ : Store}

theorem SRel.ownNil {G : Gh} {w : World} (sz : Nat) (h0 : SRel G σ w) : SRel { G with B := G.B ++ [.own none 0 0] } (σ ++ [.own sz 0]) w := by
  have hb : BLe G.B (G.B ++ [.own none 0 0]) := BLe.append _ _
  have new : ∀ (l : Nat) (g : GB), (G.B ++ [GB.own none 0 0])[l]? = some g → l < G.B.length ∧ G.B[l]? = some g ∨ l = G.B.length ∧ g = .own none 0 0 := by
    intro l g h
    rcases Nat.lt_or_ge l G.B.length with hlt | hge
    · rw [List.getElem?_append_left hlt] at h; exact .inl ⟨hlt, h⟩
    · rw [List.getElem?_append_right hge] at h
      have hz : l - G.B.length = 0 := by
        rcases Nat.eq_zero_or_pos (l - G.B.length) with hz | hp
        · exact hz
        · rw [List.getElem?_eq_none (by simp; omega)] at h; simp at h
      rw [hz] at h; simp at h
      exact .inr ⟨by omega, h.symm⟩
  refine ⟨h0.memok, h0.m0, h0.base, by simp [h0.len], fun l g o h1 h2 => ?_, fun l g b h1 h2 => ?_, fun l l' g g' b h1 h2 h3 h4 => ?_, h0.out⟩
  · rcases new l g h1 with ⟨hlt, h1⟩ | ⟨rfl, rfl⟩
    · rw [List.getElem?_append_left (by rw [← h0.len]; exact hlt)] at h2
      exact (h0.objs l g o h1 h2).keep hb fun b _ => rfl
    · rw [List.getElem?_append_right (by rw [← h0.len]; exact Nat.le_refl _)] at h2
      simp [h0.len] at h2; subst h2
      exact .ownz sz
  · rcases new l g h1 with ⟨_, h1⟩ | ⟨_, rfl⟩
    · exact h0.fresh l g b h1 h2
    · simp [GB.block] at h2
  · rcases new l g h1 with ⟨_, h1⟩ | ⟨_, rfl⟩
    · rcases new l' g' h2 with ⟨_, h2⟩ | ⟨_, rfl⟩
      · exact h0.inj l l' g g' b h1 h2 h3 h4
      · simp [GB.block] at h4
    · simp [GB.block] at h3
/-- An object is told in other words. -/
theorem SRel.retell {G : Gh} {w : World} {l : Nat} {o o' : AObj} (h : SRel G σ w) (hσ : σ[l]? = some o) (ho : ∀ g, G.B[l]? = some g → ORel G.M G.B w g o → ORel G.M G.B w g o') : SRel G (σ.set l o') w := by
  refine ⟨h.memok, h.m0, h.base, by simp [h.len], fun l' g o2 h1 h2 => ?_, h.fresh, h.inj, h.out⟩
  by_cases e : l = l'
  · subst e
    have hlt : l < σ.length := by
      rcases Nat.lt_or_ge l σ.length with h' | h'
      · exact h'
      · rw [List.getElem?_eq_none h'] at hσ; cases hσ
    rw [List.getElem?_set_self hlt] at h2
    simp at h2; subst h2
    exact ho g h1 (h.objs l g o h1 hσ)
  · rw [List.getElem?_set_ne e] at h2
    exact h.objs l' g o2 h1 h2

theorem AWP.ownNilV {c : Code} {v i sz : Nat} {cs : List AV} (hv : σ[v]? = some (.var cs)) (hi : cs[i]? = some .nils)
    (hk : AWP P n c K env (σ.set v (.var (cs.set i (.sl sz [] (.own σ.length)))) ++ [.own sz 0])) : AWP P n c K env σ := by
  intro G a w hr
  have hs := hr.st.ownNil sz
  have hv' : (σ ++ [AObj.own sz 0])[v]? = some (.var cs) := by
    have hlt : v < σ.length := by
      rcases Nat.lt_or_ge v σ.length with h' | h'
      · exact h'
      · rw [List.getElem?_eq_none h'] at hv; cases hv
    rw [List.getElem?_append_left hlt]; exact hv
  have hlt : v < σ.length := by
    rcases Nat.lt_or_ge v σ.length with h' | h'
    · exact h'
    · rw [List.getElem?_eq_none h'] at hv; cases hv
  have hl : (G.B ++ [GB.own none 0 0])[σ.length]? = some (.own none 0 0) := by
    rw [List.getElem?_append_right (by rw [hr.st.len]; exact Nat.le_refl _)]; simp [hr.st.len]
  have hs2 : SRel { G with B := G.B ++ [GB.own none 0 0] } ((σ ++ [AObj.own sz 0]).set v (.var (cs.set i (.sl sz [] (.own σ.length))))) w := by
    refine hs.retell hv' fun g hg ho => ?_
    cases ho with
    | var b _ c T fr hb hf hl' hr2 hm =>
      refine .var b _ c T fr hb hf (by simpa using hl') (fun j av hj => ?_) hm
      by_cases e : i = j
      · subst e
        have hltc : i < cs.length := by
          rcases Nat.lt_or_ge i cs.length with h' | h'
          · exact h'
          · rw [List.getElem?_eq_none h'] at hi; cases hi
        rw [List.getElem?_set_self hltc] at hj
        simp at hj; subst hj
        have := hr2 i _ hi
        cases hx : c.getD i undef <;> rw [hx] at this <;> cases this
        exact .slz sz _ ⟨none, 0, 0, by rw [hl], Nat.le_refl _, fun _ => ⟨rfl, rfl⟩⟩
      · rw [List.getElem?_set_ne e] at hj
        exact hr2 j av hj
  have e : (σ ++ [AObj.own sz 0]).set v (.var (cs.set i (.sl sz [] (.own σ.length)))) = σ.set v (.var (cs.set i (.sl sz [] (.own σ.length)))) ++ [AObj.own sz 0] := by
    rw [List.set_append_left _ _ hlt]
  rw [e] at hs2
  refine wp_mono (hk { G with B := G.B ++ [GB.own none 0 0] } a w ⟨hr.size, hr.defers, fun i => (hr.vals i).mono (Mem.Le.refl _) (BLe.append _ _), hs2⟩) ?_
  rintro x a' w' ⟨e', s', G', h1, h2, h3⟩
  exact ⟨e', s', G', h1, Gh.Le.trans (G' := { G with B := G.B ++ [GB.own none 0 0] }) ⟨rfl, rfl, Mem.Le.refl _, BLe.append _ _⟩ h2, h3⟩
end Go.Ab
