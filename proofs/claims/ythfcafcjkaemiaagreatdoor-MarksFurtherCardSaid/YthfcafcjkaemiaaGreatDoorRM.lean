/- What is handed in to the laws over marks reads as a content. No statement is proved here. -/
import Derived.Test.YthfcafcjkaemiaaGreatDoorRS
import Derived.Test.YthfcafcjkaemiaaGreatDoorMG
set_option linter.unusedVariables false
set_option linter.unusedSimpArgs false
set_option maxRecDepth 20000
namespace Go.Proofs.YthfcafcjkaemiaaGreatDoor.Mk
open Go.Ab Go.Jo Go.ChangeShapes Go.WideShapes
section
variable {H : Type} {enc : TypeId × Value → H} {W : World} {base b0 fuel : Nat} {held : Bool} {spare : Nat → Bool}
theorem cnT : Tryz.prog.cellsOf 9 = 1 := by kernel_rfl
theorem cnR : Tryz.prog.cellsOf 66 = 3 := by kernel_rfl
theorem cnM : Tryz.prog.cellsOf 68 = 10 := by kernel_rfl
theorem ctR : Tryz.prog.cellTypes Tryz.prog.depth 66 = some [3, 3, 3] := by kernel_rfl
theorem lkT : LOk Tryz.prog 9 ⟨.str, 1, 16, [.str]⟩ := .of (tabOk.get rfl)
theorem lkR : LOk Tryz.prog 66 ⟨.struct [(3, 0, 1), (3, 1, 1), (3, 2, 1)], 3, 24, [.i .i64, .i .i64, .i .i64]⟩ := .of (tabOk.get rfl)
theorem lkM : LOk Tryz.prog 68 ⟨.struct [(3, 0, 1), (3, 1, 1), (3, 2, 1), (66, 3, 3), (3, 6, 1), (3, 7, 1), (3, 8, 1), (9, 9, 1)], 10, 88, [.i .i64, .i .i64, .i .i64, .i .i64, .i .i64, .i .i64, .i .i64, .i .i64, .i .i64, .str]⟩ := .of (tabOk.get rfl)
theorem lkSM : LOk Tryz.prog 64 ⟨.slice 68, 1, 24, [.slice]⟩ := .of (tabOk.get rfl)
def vR (r : Rdr) : List Value := [vI r.part, vI r.desk, vI r.seat]
def vM (m : Jo.Mark) : List Value := [vI m.id, vI m.kind, vI m.layer, vI m.who.part, vI m.who.desk, vI m.who.seat, vI m.version, vI m.note, vI m.value, .string ⟨m.text.toArray⟩]
theorem rdR {cs : List Value} {x : DataW H × List MemPlace} (h : DataW.trod enc Tryz.prog W base spare held fuel 66 cs = some x) : ∃ r : Rdr, cs = vR r := by
  obtain ⟨hlen, n, hf⟩ := struct_rd lkR h
  rw [cnR] at hlen
  match cs, hlen with
  | [u0, u1, u2], _ =>
    obtain ⟨y0, h0⟩ := hf 0 3 0 1 rfl
    obtain ⟨y1, h1⟩ := hf 1 3 1 1 rfl
    obtain ⟨y2, h2⟩ := hf 2 3 2 1 rfl
    rw [cn3] at h0 h1 h2
    obtain ⟨n0, e0, _⟩ := int_rd lk3 h0
    obtain ⟨n1, e1, _⟩ := int_rd lk3 h1
    obtain ⟨n2, e2, _⟩ := int_rd lk3 h2
    simp at e0 e1 e2
    subst e0 e1 e2
    exact ⟨⟨n0, n1, n2⟩, rfl⟩
theorem bytes_eta (s : ByteArray) : s = ⟨s.data.toList.toArray⟩ := by cases s; simp
theorem rdM {cs : List Value} {x : DataW H × List MemPlace} (h : DataW.trod enc Tryz.prog W base spare held fuel 68 cs = some x) : ∃ m : Jo.Mark, cs = vM m ∧ m.text.length ≤ 9223372036854775807 := by
  obtain ⟨hlen, n, hf⟩ := struct_rd lkM h
  rw [cnM] at hlen
  match cs, hlen with
  | [u0, u1, u2, u3, u4, u5, u6, u7, u8, u9], _ =>
    obtain ⟨y0, h0⟩ := hf 0 3 0 1 rfl
    obtain ⟨y1, h1⟩ := hf 1 3 1 1 rfl
    obtain ⟨y2, h2⟩ := hf 2 3 2 1 rfl
    obtain ⟨y3, h3⟩ := hf 3 66 3 3 rfl
    obtain ⟨y4, h4⟩ := hf 4 3 6 1 rfl
    obtain ⟨y5, h5⟩ := hf 5 3 7 1 rfl
    obtain ⟨y6, h6⟩ := hf 6 3 8 1 rfl
    obtain ⟨y7, h7⟩ := hf 7 9 9 1 rfl
    rw [cn3] at h0 h1 h2 h4 h5 h6
    rw [cnR] at h3
    rw [cnT] at h7
    obtain ⟨n0, e0, _⟩ := int_rd lk3 h0
    obtain ⟨n1, e1, _⟩ := int_rd lk3 h1
    obtain ⟨n2, e2, _⟩ := int_rd lk3 h2
    obtain ⟨r, e3⟩ := rdR h3
    obtain ⟨n4, e4, _⟩ := int_rd lk3 h4
    obtain ⟨n5, e5, _⟩ := int_rd lk3 h5
    obtain ⟨n6, e6, _⟩ := int_rd lk3 h6
    obtain ⟨s, e7, hs⟩ := str_rd lkT h7
    simp [vR] at e0 e1 e2 e3 e4 e5 e6 e7
    obtain ⟨e31, e32, e33⟩ := e3
    subst e0 e1 e2 e31 e32 e33 e4 e5 e6 e7
    refine ⟨⟨n0, n1, n2, r, n4, n5, n6, s.data.toList⟩, by unfold vM; rw [← bytes_eta], ?_⟩
    have h9 : s.data.toList.length = s.size := by rw [Array.length_toList]; rfl
    show s.data.toList.length ≤ _
    rw [h9]; exact hs
theorem relM (m : Jo.Mark) : ∀ (j : Nat) c, (encMk m)[j]? = some c → VRel (memOf W) [] c ((vM m).getD j undef) := fun j c hj => by
  match j, hj with
  | 0, hj | 1, hj | 2, hj | 3, hj | 4, hj | 5, hj | 6, hj | 7, hj | 8, hj | 9, hj => simp only [encMk, List.getElem?_cons_succ, List.getElem?_cons_zero, Option.some.injEq] at hj; subst hj; exact .prim _
  | j + 10, hj => simp [encMk] at hj
theorem argMarks {r : Reach} {v : Value} {d : DataW H} {p : List MemPlace} (hval : Value.okWide Tryz.prog W r b0 64 v) (h : DataW.Trod enc Tryz.prog W base spare held 64 v d p) : ∃ l : List Jo.Mark, VRel (memOf W) [] (.sl 10 (l.map encMk) .no) v ∧ l.length ≤ 9223372036854775807 ∧ TextsIn l := by
  obtain ⟨fuel, hf⟩ := h
  rw [slice_val1 lkSM.und_slice hval] at hf
  obtain ⟨l, h1, h2, h3⟩ := slice_rel (w := W) (enc := enc) (base := base) (held := held) (spare := spare) encMk (fun m => m.text.length ≤ 9223372036854775807) lkSM.und_slice cnM (by decide) (fun n cs y h => by
    obtain ⟨e, rfl, hb⟩ := rdM h
    exact ⟨e, rfl, relM e, hb⟩) (slice_ok1 lkSM.und_slice hval) hf
  exact ⟨l, h1, h2, h3⟩
theorem argReader {r : Reach} {v : Value} {d : DataW H} {p : List MemPlace} (hval : Value.okWide Tryz.prog W r b0 66 v) (h : DataW.Trod enc Tryz.prog W base spare held 66 v d p) : ∃ e : Rdr, VRel (memOf W) [] (.agg (encRd e)) v := by
  obtain ⟨cs, rfl, hsz, _⟩ := struct_ok lkR ctR hval
  obtain ⟨fuel, hf⟩ := h
  obtain ⟨l, rfl⟩ : ∃ l, cs = List.toArray l := ⟨cs.toList, by simp⟩
  simp only [Value.cells] at hf
  obtain ⟨e, he⟩ := rdR hf
  have he : l = vR e := by simpa using he
  subst he
  refine ⟨e, .agg _ _ rfl fun i c hi => ?_⟩
  match i, hi with
  | 0, hi | 1, hi | 2, hi => simp only [encRd, List.getElem?_cons_succ, List.getElem?_cons_zero, Option.some.injEq] at hi; subst hi; exact .prim _
  | j + 3, hi => simp [encRd] at hi
end
end Go.Proofs.YthfcafcjkaemiaaGreatDoor.Mk
