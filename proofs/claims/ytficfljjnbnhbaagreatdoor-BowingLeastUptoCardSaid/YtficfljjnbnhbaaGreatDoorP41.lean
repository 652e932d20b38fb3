/- Marks that are handed in, by the bound of what a reading holds. No statement is proved here. -/
import Derived.Test.YtficfljjnbnhbaaGreatDoorRows
import Derived.Test.YtficfljjnbnhbaaGreatDoorP34
set_option linter.unusedVariables false
set_option linter.unusedSimpArgs false
set_option maxRecDepth 20000
namespace Go.Proofs.YtficfljjnbnhbaaGreatDoor.Bw
open Go.Ab Go.ChangeShapes Go.WideShapes Mk
theorem bulk_one {H : Type} (d : DataW H) : 1 ≤ Rows.uptoBulk d := by
 cases d with
 | lit l => cases l <;> simp [Rows.uptoBulk]
 | nil => simp [Rows.uptoBulk]
 | ptr d => simp [Rows.uptoBulk]
 | slice elems spare => simp [Rows.uptoBulk]
 | agg parts => simp [Rows.uptoBulk]
 | iface t d => simp [Rows.uptoBulk]
 | map entries => simp [Rows.uptoBulk]
 | held h => simp [Rows.uptoBulk]
theorem bulk_len {H : Type} : ∀ l : List (DataW H), l.length ≤ Rows.uptoBulkAll l
 | [] => nZl _
 | x :: r => by
   have h1 := bulk_one x
   have h2 := bulk_len r
   simp only [Rows.uptoBulkAll, zA5]; omega
theorem bulk_part0 {H : Type} {d : DataW H} : ∀ {l : List (DataW H)}, d ∈ l → Rows.uptoBulk d ≤ Rows.uptoBulkAll l
 | [], h => by cases h
 | x :: r, h => by
   simp only [Rows.uptoBulkAll]
   rcases zB7.1 h with e | e
   · subst e; omega
   · have := bulk_part0 e; omega
theorem bulk_part {H : Type} {d : DataW H} {l : List (DataW H)} (hk : Rows.uptoSmall H l = true) (h : d ∈ l) : Rows.uptoBulk d ≤ 1048576 :=
 zBb (bulk_part0 h) (of_decide_eq_true hk)
section
variable {H : Type} {enc : TypeId × Value → H} {W : World} {base b0 : Nat} {held : Bool} {spare : Nat → Bool}
theorem slice_bulk {P : Program} {t e : TypeId} {sz : Nat} {v : Value} {d : DataW H} {p : List MemPlace} {es : List (List AV)} (hu : P.underlying t = some (.slice e)) (h : DataW.Trod enc P W base spare held t v d p)
 (hr : VRel (memOf W) [] (.sl sz es .no) v) : es.length ≤ Rows.uptoBulk d := by
 obtain ⟨fuel, hf⟩ := h
 rcases Deep.open_slice hu hf with ⟨h1, h2⟩ | ⟨a, len, cap, m, n, D, Pl, h1, _, _, _, _, h2, _⟩
 · cases hr with
   | sl _ _ _ b off cap f => simp [Value.cells] at h1
   | slz => simp
   | slzz => simp
 · have hd' : d = .slice ((List.range len).map D) ((List.range (m - len)).map fun j => D (len + j)) := congrArg Prod.fst h2
   subst hd'
   have hl : es.length = len := by
    cases hr with
    | sl _ _ _ b off cap f => simp [Value.cells] at h1; omega
    | slz => simp [Value.cells] at h1
    | slzz => simp [Value.cells] at h1; simp; omega
   have := bulk_len ((List.range len).map D)
   simp only [Rows.uptoBulk]
   rw [lLm, zDb] at this
   omega
theorem argMarksB {r : Reach} {v : Value} {d : DataW H} {p : List MemPlace} (hval : Value.okWide Tryz.prog W r b0 27 v) (h : DataW.Trod enc Tryz.prog W base spare held 27 v d p) (hb : Rows.uptoBulk d ≤ 1048576) :
 ∃ l : List Jo.Mark, VRel (memOf W) [] (.sl 10 (l.map encMk) .no) v ∧ l.length ≤ 100000000000 ∧ TextsIn l := by
 obtain ⟨l, h1, _, h3⟩ := argMarks hval h
 have := slice_bulk lkSM.und_slice h h1
 rw [lLm] at this
 exact ⟨l, h1, by omega, h3⟩
end
end Go.Proofs.YtficfljjnbnhbaaGreatDoor.Bw
