/- A visit that is handed in reads as a content: for every world and value that the row allows. -/
import Derived.Test.YtjjlckhdgnoopaaEdG
namespace Go.Proofs.Ytjjlckhdgnoopaa
open Go.Ab Go.ChangeShapes Go.WideShapes
section
variable {H : Type} {enc : TypeId × Value → H} {W : World} {base b0 fuel : Nat} {held : Bool} {spare : Nat → Bool}
theorem c39 : Try.prog.cellsOf 39 = 2 := by kernel_rfl
theorem ct39 : Try.prog.cellTypes Try.prog.depth 39 = some [3, 3] := by kernel_rfl
theorem lk5 : LOk Try.prog 5 ⟨.int .u8, 1, 1, [.i .u8]⟩ := .of (tabOk.get rfl)
theorem lk47 : LOk Try.prog 47 ⟨.int .u16, 1, 2, [.i .u16]⟩ := .of (tabOk.get rfl)
theorem lk39 : LOk Try.prog 39 ⟨.struct [(3, 0, 1), (3, 1, 1)], 2, 16, [.i .i64, .i .i64]⟩ := .of (tabOk.get rfl)
theorem visit_rd {r : Reach} {v : Value} {d : DataW H} {p : List MemPlace} (hval : Value.okWide Try.prog W r b0 39 v) (h : DataW.Trod enc Try.prog W base spare held 39 v d p) : ∃ vb vp : Int, VRel (memOf W) [] (.agg [.int vb, .int vp]) v := by
  obtain ⟨cs, rfl, hsz, _⟩ := struct_ok lk39 ct39 hval
  obtain ⟨fuel, hf⟩ := h
  obtain ⟨hlen, n, hf⟩ := struct_rd lk39 hf
  rw [c39] at hsz
  obtain ⟨l, rfl⟩ : ∃ l, cs = List.toArray l := ⟨cs.toList, by simp⟩
  simp only [Value.cells] at hf
  match l, hsz with
  | [u0, u1], _ =>
    obtain ⟨y0, h0⟩ := hf 0 3 0 1 rfl
    obtain ⟨y1, h1⟩ := hf 1 3 1 1 rfl
    rw [c3] at h0 h1
    obtain ⟨n0, e0, _⟩ := int_rd lk3 h0
    obtain ⟨n1, e1, _⟩ := int_rd lk3 h1
    simp at e0 e1
    subst e0 e1
    refine ⟨n0, n1, .agg _ _ rfl fun i c hi => ?_⟩
    match i, hi with
    | 0, hi => simp at hi; subst hi; exact .prim _
    | 1, hi => simp at hi; subst hi; exact .prim _
    | i + 2, hi => simp at hi
end
end Go.Proofs.Ytjjlckhdgnoopaa
