/- An edition that is handed in reads as a content: for every world and value that the row allows. -/
import Derived.Test.YtjjlckhdgnoopaaEdE
import Derived.Test.YtjjlckhdgnoopaaAb16
/- An edition that is handed in, by content. -/
namespace Go.Proofs.Ytjjlckhdgnoopaa
open Go.Ab Go.ChangeShapes Go.WideShapes
section
variable {H : Type} {enc : TypeId × Value → H} {W : World} {base b0 fuel : Nat} {held : Bool} {spare : Nat → Bool}

theorem c3 : Try.prog.cellsOf 3 = 1 := by kernel_rfl
theorem c9 : Try.prog.cellsOf 9 = 1 := by kernel_rfl
theorem c22 : Try.prog.cellsOf 22 = 1 := by kernel_rfl
theorem c23 : Try.prog.cellsOf 23 = 1 := by kernel_rfl
theorem c25 : Try.prog.cellsOf 25 = 4 := by kernel_rfl
theorem c32 : Try.prog.cellsOf 32 = 2 := by kernel_rfl
theorem c36 : Try.prog.cellsOf 36 = 3 := by kernel_rfl
theorem ct25 : Try.prog.cellTypes Try.prog.depth 25 = some [3, 3, 22, 23] := by kernel_rfl
theorem lk3 : LOk Try.prog 3 ⟨.int .i64, 1, 8, [.i .i64]⟩ := .of (tabOk.get rfl)
theorem lk9 : LOk Try.prog 9 ⟨.str, 1, 16, [.str]⟩ := .of (tabOk.get rfl)
theorem lk22 : LOk Try.prog 22 ⟨.slice 36, 1, 24, [.slice]⟩ := .of (tabOk.get rfl)
theorem lk23 : LOk Try.prog 23 ⟨.slice 32, 1, 24, [.slice]⟩ := .of (tabOk.get rfl)
theorem lk25 : LOk Try.prog 25 ⟨.struct [(3, 0, 1), (3, 1, 1), (22, 2, 1), (23, 3, 1)], 4, 64, [.i .i64, .i .i64, .slice, .slice]⟩ := .of (tabOk.get rfl)
theorem lk32 : LOk Try.prog 32 ⟨.struct [(9, 0, 1), (3, 1, 1)], 2, 24, [.str, .i .i64]⟩ := .of (tabOk.get rfl)
theorem lk36 : LOk Try.prog 36 ⟨.struct [(3, 0, 1), (3, 1, 1), (3, 2, 1)], 3, 24, [.i .i64, .i .i64, .i .i64]⟩ := .of (tabOk.get rfl)

theorem printed_rd {cs : List Value} {x : DataW H × List MemPlace} (h : DataW.trod enc Try.prog W base spare held fuel 36 cs = some x) : ∃ a : Printed, (encP a).length = 3 ∧ (∀ (j : Nat) c, (encP a)[j]? = some c → VRel (memOf W) [] c (cs.getD j undef)) ∧ True := by
  obtain ⟨hlen, n, hf⟩ := struct_rd lk36 h
  rw [c36] at hlen
  match cs, hlen with
  | [u0, u1, u2], _ =>
    obtain ⟨y0, h0⟩ := hf 0 3 0 1 rfl
    obtain ⟨y1, h1⟩ := hf 1 3 1 1 rfl
    obtain ⟨y2, h2⟩ := hf 2 3 2 1 rfl
    rw [c3] at h0 h1 h2
    obtain ⟨n0, e0, _⟩ := int_rd lk3 h0
    obtain ⟨n1, e1, _⟩ := int_rd lk3 h1
    obtain ⟨n2, e2, _⟩ := int_rd lk3 h2
    simp at e0 e1 e2
    subst e0 e1 e2
    refine ⟨⟨n0, n1, n2⟩, rfl, fun j c hj => ?_, trivial⟩
    match j, hj with
    | 0, hj => simp [encP] at hj; subst hj; exact .prim _
    | 1, hj => simp [encP] at hj; subst hj; exact .prim _
    | 2, hj => simp [encP] at hj; subst hj; exact .prim _
    | j + 3, hj => simp [encP] at hj
theorem letter_rd {cs : List Value} {x : DataW H × List MemPlace} (h : DataW.trod enc Try.prog W base spare held fuel 32 cs = some x) : ∃ a : Letter, (encL a).length = 2 ∧ (∀ (j : Nat) c, (encL a)[j]? = some c → VRel (memOf W) [] c (cs.getD j undef)) ∧ a.name.size ≤ maxLen := by
  obtain ⟨hlen, n, hf⟩ := struct_rd lk32 h
  rw [c32] at hlen
  match cs, hlen with
  | [u0, u1], _ =>
    obtain ⟨y0, h0⟩ := hf 0 9 0 1 rfl
    obtain ⟨y1, h1⟩ := hf 1 3 1 1 rfl
    rw [c9] at h0
    rw [c3] at h1
    obtain ⟨n0, e0, hs⟩ := str_rd lk9 h0
    obtain ⟨n1, e1, _⟩ := int_rd lk3 h1
    simp at e0 e1
    subst e0 e1
    refine ⟨⟨n0, n1⟩, rfl, fun j c hj => ?_, hs⟩
    match j, hj with
    | 0, hj => simp [encL] at hj; subst hj; exact .prim _
    | 1, hj => simp [encL] at hj; subst hj; exact .prim _
    | j + 2, hj => simp [encL] at hj

theorem edition_rd {r : Reach} {v : Value} {d : DataW H} {p : List MemPlace} (hval : Value.okWide Try.prog W r b0 25 v) (h : DataW.Trod enc Try.prog W base spare held 25 v d p) : ∃ e : Edition, VRel (memOf W) [] (.agg (encE e)) v ∧ Wf e := by
  obtain ⟨cs, rfl, hsz, hspot⟩ := struct_ok lk25 ct25 hval
  obtain ⟨fuel, hf⟩ := h
  obtain ⟨hlen, n, hf⟩ := struct_rd lk25 hf
  rw [c25] at hsz
  obtain ⟨l, rfl⟩ : ∃ l, cs = List.toArray l := ⟨cs.toList, by simp⟩
  simp only [Value.cells] at hf
  match l, hsz with
  | [u0, u1, u2, u3], _ =>
    obtain ⟨y0, h0⟩ := hf 0 3 0 1 rfl
    obtain ⟨y1, h1⟩ := hf 1 3 1 1 rfl
    obtain ⟨y2, h2⟩ := hf 2 22 2 1 rfl
    obtain ⟨y3, h3⟩ := hf 3 23 3 1 rfl
    rw [c3] at h0 h1
    rw [c22] at h2
    rw [c23] at h3
    obtain ⟨n0, e0, _⟩ := int_rd lk3 h0
    obtain ⟨n1, e1, _⟩ := int_rd lk3 h1
    simp at e0 e1
    subst e0 e1
    obtain ⟨bs, g1, g2, _⟩ := slice_rel encP (fun _ => True) (v := u2) lk22.und_slice c36 (by decide) (fun n cs y h => printed_rd h) (fun a len cap he => hspot 2 22 36 a len cap (by decide) rfl lk22.und_slice (by simp [he])) h2
    obtain ⟨ls, g3, g4, g5⟩ := slice_rel encL (fun l => l.name.size ≤ maxLen) (v := u3) lk23.und_slice c32 (by decide) (fun n cs y h => letter_rd h) (fun a len cap he => hspot 3 23 32 a len cap (by decide) rfl lk23.und_slice (by simp [he])) h3
    refine ⟨⟨n0, n1, bs, ls⟩, .agg _ _ rfl fun i c hi => ?_, ⟨g2, g4, g5⟩⟩
    match i, hi with
    | 0, hi => simp [encE] at hi; subst hi; exact .prim _
    | 1, hi => simp [encE] at hi; subst hi; exact .prim _
    | 2, hi => simp [encE] at hi; subst hi; exact g1
    | 3, hi => simp [encE] at hi; subst hi; exact g3
    | i + 4, hi => simp [encE] at hi
end
theorem own : ownKnob Try.prog.godebug = none := by kernel_rfl
theorem laidOut : laidOutB Try.prog = true := by kernel_rfl
end Go.Proofs.Ytjjlckhdgnoopaa
