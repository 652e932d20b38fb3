/- What is handed in to the laws over editions reads as a content. No statement is proved here. -/
import Derived.Test.YtnmdmmfdnnmdfaaGreatDoorRS
import Derived.Test.YtnmdmmfdnnmdfaaGreatDoorEJ
set_option linter.unusedVariables false
set_option linter.unusedSimpArgs false
set_option maxRecDepth 20000
namespace Go.Proofs.YtnmdmmfdnnmdfaaGreatDoor.Ed
open Go.Ab Go.ChangeShapes Go.WideShapes
section
variable {H : Type} {enc : TypeId × Value → H} {W : World} {base b0 fuel : Nat} {held : Bool} {spare : Nat → Bool}
theorem cnT9 : Tryz.prog.cellsOf 9 = 1 := by kernel_rfl
theorem cnSP : Tryz.prog.cellsOf 48 = 1 := by kernel_rfl
theorem cnSL : Tryz.prog.cellsOf 49 = 1 := by kernel_rfl
theorem cnEd : Tryz.prog.cellsOf 51 = 4 := by kernel_rfl
theorem cnLe : Tryz.prog.cellsOf 92 = 2 := by kernel_rfl
theorem cnPr : Tryz.prog.cellsOf 96 = 3 := by kernel_rfl
theorem cnVi : Tryz.prog.cellsOf 53 = 2 := by kernel_rfl
theorem ctEd : Tryz.prog.cellTypes Tryz.prog.depth 51 = some [3, 3, 48, 49] := by kernel_rfl
theorem ctVi : Tryz.prog.cellTypes Tryz.prog.depth 53 = some [3, 3] := by kernel_rfl
theorem lkT9 : LOk Tryz.prog 9 ⟨.str, 1, 16, [.str]⟩ := .of (tabOk.get rfl)
theorem lkSP : LOk Tryz.prog 48 ⟨.slice 96, 1, 24, [.slice]⟩ := .of (tabOk.get rfl)
theorem lkSL : LOk Tryz.prog 49 ⟨.slice 92, 1, 24, [.slice]⟩ := .of (tabOk.get rfl)
theorem lkEd : LOk Tryz.prog 51 ⟨.struct [(3, 0, 1), (3, 1, 1), (48, 2, 1), (49, 3, 1)], 4, 64, [.i .i64, .i .i64, .slice, .slice]⟩ := .of (tabOk.get rfl)
theorem lkLe : LOk Tryz.prog 92 ⟨.struct [(9, 0, 1), (3, 1, 1)], 2, 24, [.str, .i .i64]⟩ := .of (tabOk.get rfl)
theorem lkPr : LOk Tryz.prog 96 ⟨.struct [(3, 0, 1), (3, 1, 1), (3, 2, 1)], 3, 24, [.i .i64, .i .i64, .i .i64]⟩ := .of (tabOk.get rfl)
theorem lkVi : LOk Tryz.prog 53 ⟨.struct [(3, 0, 1), (3, 1, 1)], 2, 16, [.i .i64, .i .i64]⟩ := .of (tabOk.get rfl)
theorem printed_rd {cs : List Value} {x : DataW H × List MemPlace} (h : DataW.trod enc Tryz.prog W base spare held fuel 96 cs = some x) : ∃ a : Printed, (encP a).length = 3 ∧ (∀ (j : Nat) c, (encP a)[j]? = some c → VRel (memOf W) [] c (cs.getD j undef)) ∧ True := by
  obtain ⟨hlen, n, hf⟩ := struct_rd lkPr h
  rw [cnPr] at hlen
  match cs, hlen with
  | [u0, u1, u2], _ =>
    obtain ⟨y0, h0⟩ := hf 0 3 0 1 rfl
    obtain ⟨y1, h1⟩ := hf 1 3 1 1 rfl
    obtain ⟨y2, h2⟩ := hf 2 3 2 1 rfl
    rw [cn3] at h0 h1 h2
    obtain ⟨n0, e0, _⟩ := int_rd lk3 h0
    obtain ⟨n1, e1, _⟩ := int_rd lk3 h1
    obtain ⟨n2, e2, _⟩ := int_rd lk3 h2
    simp at e0 e1 e2
    subst e0 e1 e2
    refine ⟨⟨n0, n1, n2⟩, rfl, fun j c hj => ?_, trivial⟩
    match j, hj with
    | 0, hj => simp [encP] at hj; subst hj; exact .prim _
    | 1, hj => simp [encP] at hj; subst hj; exact .prim _
    | 2, hj => simp [encP] at hj; subst hj; exact .prim _
    | j + 3, hj => simp [encP] at hj
theorem letter_rd {cs : List Value} {x : DataW H × List MemPlace} (h : DataW.trod enc Tryz.prog W base spare held fuel 92 cs = some x) : ∃ a : Letter, (encL a).length = 2 ∧ (∀ (j : Nat) c, (encL a)[j]? = some c → VRel (memOf W) [] c (cs.getD j undef)) ∧ a.name.size ≤ maxLen := by
  obtain ⟨hlen, n, hf⟩ := struct_rd lkLe h
  rw [cnLe] at hlen
  match cs, hlen with
  | [u0, u1], _ =>
    obtain ⟨y0, h0⟩ := hf 0 9 0 1 rfl
    obtain ⟨y1, h1⟩ := hf 1 3 1 1 rfl
    rw [cnT9] at h0
    rw [cn3] at h1
    obtain ⟨n0, e0, hs⟩ := str_rd lkT9 h0
    obtain ⟨n1, e1, _⟩ := int_rd lk3 h1
    simp at e0 e1
    subst e0 e1
    refine ⟨⟨n0, n1⟩, rfl, fun j c hj => ?_, hs⟩
    match j, hj with
    | 0, hj => simp [encL] at hj; subst hj; exact .prim _
    | 1, hj => simp [encL] at hj; subst hj; exact .prim _
    | j + 2, hj => simp [encL] at hj

theorem argEdition {r : Reach} {v : Value} {d : DataW H} {p : List MemPlace} (hval : Value.okWide Tryz.prog W r b0 51 v) (h : DataW.Trod enc Tryz.prog W base spare held 51 v d p) : ∃ e : Edition, VRel (memOf W) [] (.agg (encE e)) v ∧ Wf e := by
  obtain ⟨cs, rfl, hsz, hspot⟩ := struct_ok lkEd ctEd hval
  obtain ⟨fuel, hf⟩ := h
  obtain ⟨hlen, n, hf⟩ := struct_rd lkEd hf
  rw [cnEd] at hsz
  obtain ⟨l, rfl⟩ : ∃ l, cs = List.toArray l := ⟨cs.toList, by simp⟩
  simp only [Value.cells] at hf
  match l, hsz with
  | [u0, u1, u2, u3], _ =>
    obtain ⟨y0, h0⟩ := hf 0 3 0 1 rfl
    obtain ⟨y1, h1⟩ := hf 1 3 1 1 rfl
    obtain ⟨y2, h2⟩ := hf 2 48 2 1 rfl
    obtain ⟨y3, h3⟩ := hf 3 49 3 1 rfl
    rw [cn3] at h0 h1
    rw [cnSP] at h2
    rw [cnSL] at h3
    obtain ⟨n0, e0, _⟩ := int_rd lk3 h0
    obtain ⟨n1, e1, _⟩ := int_rd lk3 h1
    simp at e0 e1
    subst e0 e1
    obtain ⟨bs, g1, g2, _⟩ := slice_rel encP (fun _ => True) (v := u2) lkSP.und_slice cnPr (by decide) (fun n cs y h => printed_rd h) (fun a len cap he => hspot 2 48 96 a len cap (by decide) rfl lkSP.und_slice (by simp [he])) h2
    obtain ⟨ls, g3, g4, g5⟩ := slice_rel encL (fun l => l.name.size ≤ maxLen) (v := u3) lkSL.und_slice cnLe (by decide) (fun n cs y h => letter_rd h) (fun a len cap he => hspot 3 49 92 a len cap (by decide) rfl lkSL.und_slice (by simp [he])) h3
    refine ⟨⟨n0, n1, bs, ls⟩, .agg _ _ rfl fun i c hi => ?_, ⟨g2, g4, g5⟩⟩
    match i, hi with
    | 0, hi => simp [encE] at hi; subst hi; exact .prim _
    | 1, hi => simp [encE] at hi; subst hi; exact .prim _
    | 2, hi => simp [encE] at hi; subst hi; exact g1
    | 3, hi => simp [encE] at hi; subst hi; exact g3
    | i + 4, hi => simp [encE] at hi
theorem argVisit {r : Reach} {v : Value} {d : DataW H} {p : List MemPlace} (hval : Value.okWide Tryz.prog W r b0 53 v) (h : DataW.Trod enc Tryz.prog W base spare held 53 v d p) : ∃ vb vp : Int, VRel (memOf W) [] (.agg [.int vb, .int vp]) v := by
  obtain ⟨cs, rfl, hsz, _⟩ := struct_ok lkVi ctVi hval
  obtain ⟨fuel, hf⟩ := h
  obtain ⟨hlen, n, hf⟩ := struct_rd lkVi hf
  rw [cnVi] at hsz
  obtain ⟨l, rfl⟩ : ∃ l, cs = List.toArray l := ⟨cs.toList, by simp⟩
  simp only [Value.cells] at hf
  match l, hsz with
  | [u0, u1], _ =>
    obtain ⟨y0, h0⟩ := hf 0 3 0 1 rfl
    obtain ⟨y1, h1⟩ := hf 1 3 1 1 rfl
    rw [cn3] at h0 h1
    obtain ⟨n0, e0, _⟩ := int_rd lk3 h0
    obtain ⟨n1, e1, _⟩ := int_rd lk3 h1
    simp at e0 e1
    subst e0 e1
    refine ⟨n0, n1, .agg _ _ rfl fun i c hi => ?_⟩
    match i, hi with
    | 0, hi => simp at hi; subst hi; exact .prim _
    | 1, hi => simp at hi; subst hi; exact .prim _
    | i + 2, hi => simp at hi
end
end Go.Proofs.YtnmdmmfdnnmdfaaGreatDoor.Ed
