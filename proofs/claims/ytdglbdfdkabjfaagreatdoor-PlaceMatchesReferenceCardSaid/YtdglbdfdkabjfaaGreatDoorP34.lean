/- What is handed in to the laws over scores reads as a content.  What is handed in to the laws over editions reads as a content.  What is handed in to the laws over places reads as a content: rooms, calls, moments, cuts, times. No statement is proved here. -/
import Derived.LaidHandle
import Derived.LaidMore
import Derived.MakeChecks
import Derived.SizedLaws
import Derived.Test.YtdglbdfdkabjfaaGreatDoorP3
import Derived.Test.YtdglbdfdkabjfaaGreatDoorP22
import Derived.Test.YtdglbdfdkabjfaaGreatDoorP23
set_option linter.unusedVariables false
set_option linter.unusedSimpArgs false
set_option maxRecDepth 20000
namespace Go.Ab
open Go.ChangeShapes Go.WideShapes
end Go.Ab
namespace Go.Proofs.YtdglbdfdkabjfaaGreatDoor
open Go.Ab Go.ChangeShapes Go.WideShapes
section
variable {H : Type} {enc : TypeId × Value → H} {W : World} {base b0 fuel : Nat} {held : Bool} {spare : Nat → Bool}
abbrev vI (n : Int) : Value := .int .i64 n
theorem lk3 : LOk Tryz.prog 3 ⟨.int .i64, 1, 8, [.i .i64]⟩ := .of (tabOk.get rfl)
theorem cn3 : Tryz.prog.cellsOf 3 = 1 := by kernel_rfl
theorem lkRat : LOk Tryz.prog 42 ⟨.struct [(3, 0, 1), (3, 1, 1)], 2, 16, [.i .i64, .i .i64]⟩ := .of (tabOk.get rfl)
theorem cnRat : Tryz.prog.cellsOf 42 = 2 := by kernel_rfl
def vRat (x : Rat) : List Value := [vI x.n] ++ [vI x.d]
theorem rdRat {cs : List Value} {y : DataW H × List MemPlace} (h : DataW.trod enc Tryz.prog W base spare held fuel 42 cs = some y) : ∃ x : Rat, cs = vRat x := by
 obtain ⟨hlen, n, hf⟩ := struct_rd lkRat h
 rw [cnRat] at hlen
 match cs, hlen with
 | [u0, u1], _ =>
   obtain ⟨y0, h0⟩ := hf 0 3 0 1 rfl
   obtain ⟨y1, h1⟩ := hf 1 3 1 1 rfl
   rw [cn3] at h0 h1
   obtain ⟨n0, e0, _⟩ := int_rd lk3 h0
   obtain ⟨n1, e1, _⟩ := int_rd lk3 h1
   have g0 : u0 = vI n0 := by simpa using e0
   have g1 : u1 = vI n1 := by simpa using e1
   refine ⟨⟨n0, n1⟩, ?_⟩
   subst g0
   subst g1
   unfold vRat
   rfl
theorem relRat (x : Rat) : ∀ (j : Nat) c, (encR x)[j]? = some c → VRel (memOf W) [] c ((vRat x).getD j undef) := fun j c hj => by
 match j, hj with
 | 0, hj | 1, hj => simp only [encR, zBm, zCr, Option.some.injEq] at hj; subst hj; exact .prim _
 | j + 2, hj => simp [encR] at hj
theorem lkInterval : LOk Tryz.prog 140 ⟨.struct [(3, 0, 1), (3, 1, 1)], 2, 16, [.i .i64, .i .i64]⟩ := .of (tabOk.get rfl)
theorem cnInterval : Tryz.prog.cellsOf 140 = 2 := by kernel_rfl
def vInterval (x : Interval) : List Value := [vI x.steps] ++ [vI x.semi]
theorem rdInterval {cs : List Value} {y : DataW H × List MemPlace} (h : DataW.trod enc Tryz.prog W base spare held fuel 140 cs = some y) : ∃ x : Interval, cs = vInterval x := by
 obtain ⟨hlen, n, hf⟩ := struct_rd lkInterval h
 rw [cnInterval] at hlen
 match cs, hlen with
 | [u0, u1], _ =>
   obtain ⟨y0, h0⟩ := hf 0 3 0 1 rfl
   obtain ⟨y1, h1⟩ := hf 1 3 1 1 rfl
   rw [cn3] at h0 h1
   obtain ⟨n0, e0, _⟩ := int_rd lk3 h0
   obtain ⟨n1, e1, _⟩ := int_rd lk3 h1
   have g0 : u0 = vI n0 := by simpa using e0
   have g1 : u1 = vI n1 := by simpa using e1
   refine ⟨⟨n0, n1⟩, ?_⟩
   subst g0
   subst g1
   unfold vInterval
   rfl
theorem lkPitch : LOk Tryz.prog 142 ⟨.struct [(3, 0, 1), (3, 1, 1), (3, 2, 1)], 3, 24, [.i .i64, .i .i64, .i .i64]⟩ := .of (tabOk.get rfl)
theorem cnPitch : Tryz.prog.cellsOf 142 = 3 := by kernel_rfl
def vPitch (x : Pitch) : List Value := [vI x.step] ++ [vI x.alter] ++ [vI x.oct]
theorem rdPitch {cs : List Value} {y : DataW H × List MemPlace} (h : DataW.trod enc Tryz.prog W base spare held fuel 142 cs = some y) : ∃ x : Pitch, cs = vPitch x := by
 obtain ⟨hlen, n, hf⟩ := struct_rd lkPitch h
 rw [cnPitch] at hlen
 match cs, hlen with
 | [u0, u1, u2], _ =>
   obtain ⟨y0, h0⟩ := hf 0 3 0 1 rfl
   obtain ⟨y1, h1⟩ := hf 1 3 1 1 rfl
   obtain ⟨y2, h2⟩ := hf 2 3 2 1 rfl
   rw [cn3] at h0 h1 h2
   obtain ⟨n0, e0, _⟩ := int_rd lk3 h0
   obtain ⟨n1, e1, _⟩ := int_rd lk3 h1
   obtain ⟨n2, e2, _⟩ := int_rd lk3 h2
   have g0 : u0 = vI n0 := by simpa using e0
   have g1 : u1 = vI n1 := by simpa using e1
   have g2 : u2 = vI n2 := by simpa using e2
   refine ⟨⟨n0, n1, n2⟩, ?_⟩
   subst g0
   subst g1
   subst g2
   unfold vPitch
   rfl
theorem lkBar : LOk Tryz.prog 79 ⟨.struct [(3, 0, 1), (42, 1, 2), (3, 3, 1)], 4, 32, [.i .i64, .i .i64, .i .i64, .i .i64]⟩ := .of (tabOk.get rfl)
theorem cnBar : Tryz.prog.cellsOf 79 = 4 := by kernel_rfl
def vBar (x : Bar) : List Value := [vI x.id] ++ vRat x.len ++ [vI x.key]
theorem rdBar {cs : List Value} {y : DataW H × List MemPlace} (h : DataW.trod enc Tryz.prog W base spare held fuel 79 cs = some y) : ∃ x : Bar, cs = vBar x := by
 obtain ⟨hlen, n, hf⟩ := struct_rd lkBar h
 rw [cnBar] at hlen
 match cs, hlen with
 | [u0, u1, u2, u3], _ =>
   obtain ⟨y0, h0⟩ := hf 0 3 0 1 rfl
   obtain ⟨y1, h1⟩ := hf 1 42 1 2 rfl
   obtain ⟨y2, h2⟩ := hf 2 3 3 1 rfl
   rw [cn3] at h0 h2
   rw [cnRat] at h1
   obtain ⟨n0, e0, _⟩ := int_rd lk3 h0
   obtain ⟨n1, e1⟩ := rdRat h1
   obtain ⟨n2, e2, _⟩ := int_rd lk3 h2
   have g0 : u0 = vI n0 := by simpa using e0
   have g1 : [u1, u2] = vRat n1 := by simpa using e1
   have g2 : u3 = vI n2 := by simpa using e2
   refine ⟨⟨n0, n1, n2⟩, ?_⟩
   subst g0
   subst g2
   unfold vBar
   rw [← g1]
   rfl
theorem relBar (x : Bar) : ∀ (j : Nat) c, (encB x)[j]? = some c → VRel (memOf W) [] c ((vBar x).getD j undef) := fun j c hj => by
 match j, hj with
 | 0, hj | 1, hj | 2, hj | 3, hj => simp only [encB, zBm, zCr, Option.some.injEq] at hj; subst hj; exact .prim _
 | j + 4, hj => simp [encB] at hj
theorem lkPart : LOk Tryz.prog 144 ⟨.struct [(3, 0, 1), (3, 1, 1), (3, 2, 1), (3, 3, 1), (3, 4, 1), (140, 5, 2), (142, 7, 3), (142, 10, 3)], 13, 104, [.i .i64, .i .i64, .i .i64, .i .i64, .i .i64, .i .i64, .i .i64, .i .i64, .i .i64, .i .i64, .i .i64, .i .i64, .i .i64]⟩ := .of (tabOk.get rfl)
theorem cnPart : Tryz.prog.cellsOf 144 = 13 := by kernel_rfl
def vPart (x : Part) : List Value := [vI x.id] ++ [vI x.section_] ++ [vI x.of_] ++ [vI x.octave] ++ [vI x.desks] ++ vInterval x.shift ++ vPitch x.low ++ vPitch x.high
theorem rdPart {cs : List Value} {y : DataW H × List MemPlace} (h : DataW.trod enc Tryz.prog W base spare held fuel 144 cs = some y) : ∃ x : Part, cs = vPart x := by
 obtain ⟨hlen, n, hf⟩ := struct_rd lkPart h
 rw [cnPart] at hlen
 match cs, hlen with
 | [u0, u1, u2, u3, u4, u5, u6, u7, u8, u9, u10, u11, u12], _ =>
   obtain ⟨y0, h0⟩ := hf 0 3 0 1 rfl
   obtain ⟨y1, h1⟩ := hf 1 3 1 1 rfl
   obtain ⟨y2, h2⟩ := hf 2 3 2 1 rfl
   obtain ⟨y3, h3⟩ := hf 3 3 3 1 rfl
   obtain ⟨y4, h4⟩ := hf 4 3 4 1 rfl
   obtain ⟨y5, h5⟩ := hf 5 140 5 2 rfl
   obtain ⟨y6, h6⟩ := hf 6 142 7 3 rfl
   obtain ⟨y7, h7⟩ := hf 7 142 10 3 rfl
   rw [cn3] at h0 h1 h2 h3 h4
   rw [cnInterval] at h5
   rw [cnPitch] at h6
   rw [cnPitch] at h7
   obtain ⟨n0, e0, _⟩ := int_rd lk3 h0
   obtain ⟨n1, e1, _⟩ := int_rd lk3 h1
   obtain ⟨n2, e2, _⟩ := int_rd lk3 h2
   obtain ⟨n3, e3, _⟩ := int_rd lk3 h3
   obtain ⟨n4, e4, _⟩ := int_rd lk3 h4
   obtain ⟨n5, e5⟩ := rdInterval h5
   obtain ⟨n6, e6⟩ := rdPitch h6
   obtain ⟨n7, e7⟩ := rdPitch h7
   have g0 : u0 = vI n0 := by simpa using e0
   have g1 : u1 = vI n1 := by simpa using e1
   have g2 : u2 = vI n2 := by simpa using e2
   have g3 : u3 = vI n3 := by simpa using e3
   have g4 : u4 = vI n4 := by simpa using e4
   have g5 : [u5, u6] = vInterval n5 := by simpa using e5
   have g6 : [u7, u8, u9] = vPitch n6 := by simpa using e6
   have g7 : [u10, u11, u12] = vPitch n7 := by simpa using e7
   refine ⟨⟨n0, n1, n2, n3, n4, n5, n6, n7⟩, ?_⟩
   subst g0
   subst g1
   subst g2
   subst g3
   subst g4
   unfold vPart
   rw [← g5]
   rw [← g6]
   rw [← g7]
   rfl
theorem relPart (x : Part) : ∀ (j : Nat) c, (encP x)[j]? = some c → VRel (memOf W) [] c ((vPart x).getD j undef) := fun j c hj => by
 match j, hj with
 | 0, hj | 1, hj | 2, hj | 3, hj | 4, hj | 5, hj | 6, hj | 7, hj | 8, hj | 9, hj | 10, hj | 11, hj | 12, hj => simp only [encP, zBm, zCr, Option.some.injEq] at hj; subst hj; exact .prim _
 | j + 13, hj => simp [encP] at hj
theorem lkNote : LOk Tryz.prog 173 ⟨.struct [(3, 0, 1), (3, 1, 1), (3, 2, 1), (3, 3, 1), (3, 4, 1), (42, 5, 2), (42, 7, 2), (142, 9, 3)], 12, 96, [.i .i64, .i .i64, .i .i64, .i .i64, .i .i64, .i .i64, .i .i64, .i .i64, .i .i64, .i .i64, .i .i64, .i .i64]⟩ := .of (tabOk.get rfl)
theorem cnNote : Tryz.prog.cellsOf 173 = 12 := by kernel_rfl
def vNote (x : Note) : List Value := [vI x.id] ++ [vI x.part] ++ [vI x.bar] ++ [vI x.voice] ++ [vI x.ossia] ++ vRat x.start ++ vRat x.len ++ vPitch x.pitch
theorem rdNote {cs : List Value} {y : DataW H × List MemPlace} (h : DataW.trod enc Tryz.prog W base spare held fuel 173 cs = some y) : ∃ x : Note, cs = vNote x := by
 obtain ⟨hlen, n, hf⟩ := struct_rd lkNote h
 rw [cnNote] at hlen
 match cs, hlen with
 | [u0, u1, u2, u3, u4, u5, u6, u7, u8, u9, u10, u11], _ =>
   obtain ⟨y0, h0⟩ := hf 0 3 0 1 rfl
   obtain ⟨y1, h1⟩ := hf 1 3 1 1 rfl
   obtain ⟨y2, h2⟩ := hf 2 3 2 1 rfl
   obtain ⟨y3, h3⟩ := hf 3 3 3 1 rfl
   obtain ⟨y4, h4⟩ := hf 4 3 4 1 rfl
   obtain ⟨y5, h5⟩ := hf 5 42 5 2 rfl
   obtain ⟨y6, h6⟩ := hf 6 42 7 2 rfl
   obtain ⟨y7, h7⟩ := hf 7 142 9 3 rfl
   rw [cn3] at h0 h1 h2 h3 h4
   rw [cnRat] at h5
   rw [cnRat] at h6
   rw [cnPitch] at h7
   obtain ⟨n0, e0, _⟩ := int_rd lk3 h0
   obtain ⟨n1, e1, _⟩ := int_rd lk3 h1
   obtain ⟨n2, e2, _⟩ := int_rd lk3 h2
   obtain ⟨n3, e3, _⟩ := int_rd lk3 h3
   obtain ⟨n4, e4, _⟩ := int_rd lk3 h4
   obtain ⟨n5, e5⟩ := rdRat h5
   obtain ⟨n6, e6⟩ := rdRat h6
   obtain ⟨n7, e7⟩ := rdPitch h7
   have g0 : u0 = vI n0 := by simpa using e0
   have g1 : u1 = vI n1 := by simpa using e1
   have g2 : u2 = vI n2 := by simpa using e2
   have g3 : u3 = vI n3 := by simpa using e3
   have g4 : u4 = vI n4 := by simpa using e4
   have g5 : [u5, u6] = vRat n5 := by simpa using e5
   have g6 : [u7, u8] = vRat n6 := by simpa using e6
   have g7 : [u9, u10, u11] = vPitch n7 := by simpa using e7
   refine ⟨⟨n0, n1, n2, n3, n4, n5, n6, n7⟩, ?_⟩
   subst g0
   subst g1
   subst g2
   subst g3
   subst g4
   unfold vNote
   rw [← g5]
   rw [← g6]
   rw [← g7]
   rfl
theorem relNote (x : Note) : ∀ (j : Nat) c, (encN x)[j]? = some c → VRel (memOf W) [] c ((vNote x).getD j undef) := fun j c hj => by
 match j, hj with
 | 0, hj | 1, hj | 2, hj | 3, hj | 4, hj | 5, hj | 6, hj | 7, hj | 8, hj | 9, hj | 10, hj | 11, hj => simp only [encN, zBm, zCr, Option.some.injEq] at hj; subst hj; exact .prim _
 | j + 12, hj => simp [encN] at hj
theorem lkSBar : LOk Tryz.prog 22 ⟨.slice 79, 1, 24, [.slice]⟩ := .of (tabOk.get rfl)
theorem cnSBar : Tryz.prog.cellsOf 22 = 1 := by kernel_rfl
theorem rdSBar {v : Value} {y : DataW H × List MemPlace} (hspot : ∀ a len cap, v = .slice (some a) len cap → a.spot = none) (h : DataW.trod enc Tryz.prog W base spare held fuel 22 [v] = some y) : ∃ l : List Bar, VRel (memOf W) [] (.sl 4 (l.map encB) .no) v ∧ l.length ≤ 9223372036854775807 := by
 obtain ⟨l, h1, h2, _⟩ := slice_rel (w := W) (enc := enc) (base := base) (held := held) (spare := spare) encB (fun _ => True) lkSBar.und_slice cnBar (by decide) (fun n cs y h => by
  obtain ⟨e, rfl⟩ := rdBar h
  exact ⟨e, rfl, relBar e, trivial⟩) hspot h
 exact ⟨l, h1, h2⟩
theorem lkSPart : LOk Tryz.prog 23 ⟨.slice 144, 1, 24, [.slice]⟩ := .of (tabOk.get rfl)
theorem cnSPart : Tryz.prog.cellsOf 23 = 1 := by kernel_rfl
theorem rdSPart {v : Value} {y : DataW H × List MemPlace} (hspot : ∀ a len cap, v = .slice (some a) len cap → a.spot = none) (h : DataW.trod enc Tryz.prog W base spare held fuel 23 [v] = some y) : ∃ l : List Part, VRel (memOf W) [] (.sl 13 (l.map encP) .no) v ∧ l.length ≤ 9223372036854775807 := by
 obtain ⟨l, h1, h2, _⟩ := slice_rel (w := W) (enc := enc) (base := base) (held := held) (spare := spare) encP (fun _ => True) lkSPart.und_slice cnPart (by decide) (fun n cs y h => by
  obtain ⟨e, rfl⟩ := rdPart h
  exact ⟨e, rfl, relPart e, trivial⟩) hspot h
 exact ⟨l, h1, h2⟩
theorem lkSNote : LOk Tryz.prog 24 ⟨.slice 173, 1, 24, [.slice]⟩ := .of (tabOk.get rfl)
theorem cnSNote : Tryz.prog.cellsOf 24 = 1 := by kernel_rfl
theorem rdSNote {v : Value} {y : DataW H × List MemPlace} (hspot : ∀ a len cap, v = .slice (some a) len cap → a.spot = none) (h : DataW.trod enc Tryz.prog W base spare held fuel 24 [v] = some y) : ∃ l : List Note, VRel (memOf W) [] (.sl 12 (l.map encN) .no) v ∧ l.length ≤ 9223372036854775807 := by
 obtain ⟨l, h1, h2, _⟩ := slice_rel (w := W) (enc := enc) (base := base) (held := held) (spare := spare) encN (fun _ => True) lkSNote.und_slice cnNote (by decide) (fun n cs y h => by
  obtain ⟨e, rfl⟩ := rdNote h
  exact ⟨e, rfl, relNote e, trivial⟩) hspot h
 exact ⟨l, h1, h2⟩
theorem lkScore : LOk Tryz.prog 26 ⟨.struct [(3, 0, 1), (22, 1, 1), (23, 2, 1), (24, 3, 1)], 4, 80, [.i .i64, .slice, .slice, .slice]⟩ := .of (tabOk.get rfl)
theorem cnScore : Tryz.prog.cellsOf 26 = 4 := by kernel_rfl
theorem ctScore : Tryz.prog.cellTypes Tryz.prog.depth 26 = some [3, 22, 23, 24] := by kernel_rfl
theorem argScore {r : Reach} {v : Value} {d : DataW H} {p : List MemPlace} (hval : Value.okWide Tryz.prog W r b0 26 v) (h : DataW.Trod enc Tryz.prog W base spare held 26 v d p) : ∃ s : Score, VRel (memOf W) [] (.agg (encS s)) v ∧ s.Sized := by
 obtain ⟨cs, rfl, hsz, hspot⟩ := struct_ok lkScore ctScore hval
 obtain ⟨fuel, hf⟩ := h
 obtain ⟨l, rfl⟩ : ∃ l, cs = List.toArray l := ⟨cs.toList, by simp⟩
 simp only [Value.cells] at hf
 obtain ⟨hlen, n, hff⟩ := struct_rd lkScore hf
 rw [cnScore] at hlen
 match l, hlen with
 | [u0, u1, u2, u3], _ =>
   obtain ⟨y0, h0⟩ := hff 0 3 0 1 rfl
   obtain ⟨y1, h1⟩ := hff 1 22 1 1 rfl
   obtain ⟨y2, h2⟩ := hff 2 23 2 1 rfl
   obtain ⟨y3, h3⟩ := hff 3 24 3 1 rfl
   rw [cn3] at h0
   rw [cnSBar] at h1
   rw [cnSPart] at h2
   rw [cnSNote] at h3
   obtain ⟨n0, e0, _⟩ := int_rd lk3 h0
   have g0 : u0 = vI n0 := by simpa using e0
   subst g0
   obtain ⟨a, r1, b1⟩ := rdSBar (v := u1) (fun ad len cap e => hspot 1 _ _ ad len cap (by decide) rfl lkSBar.und_slice (by subst e; rfl)) (by simpa using h1)
   obtain ⟨b, r2, b2⟩ := rdSPart (v := u2) (fun ad len cap e => hspot 2 _ _ ad len cap (by decide) rfl lkSPart.und_slice (by subst e; rfl)) (by simpa using h2)
   obtain ⟨c, r3, b3⟩ := rdSNote (v := u3) (fun ad len cap e => hspot 3 _ _ ad len cap (by decide) rfl lkSNote.und_slice (by subst e; rfl)) (by simpa using h3)
   refine ⟨⟨n0, a, b, c⟩, .agg _ _ rfl fun i c hi => ?_, b1, b2, b3⟩
   match i, hi with
   | 0, hi => simp [encS] at hi; subst hi; exact .prim _
   | 1, hi => simp [encS] at hi; subst hi; exact r1
   | 2, hi => simp [encS] at hi; subst hi; exact r2
   | 3, hi => simp [encS] at hi; subst hi; exact r3
   | i + 4, hi => simp [encS] at hi
end
theorem own : ownKnob Tryz.prog.godebug = none := by kernel_rfl
theorem laidOut : laidOutB Tryz.prog = true := by kernel_rfl
abbrev laid1 : List (String × DataW Unit) := [("errors.errorType", Rows.laid_errors_errorType), ("partbook/pitch.naturals", Rows.laid_partbook_pitch_naturals)]
theorem door_met (os : Os) (args : Array Value) : laidMetH Tryz.prog laid1 ((World.doorLaid Tryz.prog 4000 os).forCall (fun _ _ => 0) ⟨#[], args, []⟩).memory :=
 laidMetH_of_parts3 (fuel := 8) (laidMet_of_run' 8 (by kernel_rfl) (by kernel_rfl)) (by kernel_rfl) (by kernel_rfl)
theorem gErr : Tryz.prog.globalNamed "errors.errorType" = some 0 := by kernel_rfl
theorem gNat : Tryz.prog.globalNamed "partbook/pitch.naturals" = some 1 := by kernel_rfl
theorem tNat : (Tryz.prog.globals[1]?).map (·.type) = some 273 := by kernel_rfl
theorem uNat : Tryz.prog.underlying 273 = some (.array 7 3) := by kernel_rfl
theorem rtT : (Tryz.prog.cutTypes.find? (·.1 == "internal/reflectlite.rtype")).map (·.2) = some 242 := by kernel_rfl
theorem oneRow : ((List.range (425 - 100)).filter fun t => Tryz.prog.rowNamed t [101, 114, 114, 111, 114]) = [92] := by kernel_rfl
theorem sizeT : Tryz.prog.types.size = 425 - 100 := by kernel_rfl
theorem hndE : typeHandle Tryz.prog 92 = .pointer (some ⟨2, 92, none⟩) := by kernel_rfl
theorem handle_laid {W : World} (h : handlesMet Tryz.prog [("errors.errorType", Rows.laid_errors_errorType)] W) : W.cell? ⟨0, 0, none⟩ = some (.iface 242 (.agg #[.pointer (some ⟨2, 92, none⟩)])) := by
 obtain ⟨name, u, ty, e1, e2, e3, e4, e5⟩ := h _ (zAf.2 rfl)
 have en : name = [101, 114, 114, 111, 114] := (Option.some.inj e1).symm
 subst en
 obtain rfl := Option.some.inj (rtT.symm.trans e2)
 have hm : ty ∈ (List.range (425 - 100)).filter fun t => Tryz.prog.rowNamed t [101, 114, 114, 111, 114] := zBk.2 ⟨zAu.2 (by rw [← sizeT]; exact e3), e4⟩
 rw [oneRow] at hm
 obtain rfl := zAf.1 hm
 rw [hndE] at e5
 simpa using World.var?_cell gErr e5 0
theorem gam_laid {W : World} (h : laidMetH Tryz.prog laid1 W) : GamOk (memOf W) := by
 have h' : laidMet Tryz.prog [("partbook/pitch.naturals", Rows.laid_partbook_pitch_naturals)] W ∧ handlesMet Tryz.prog [("errors.errorType", Rows.laid_errors_errorType)] W := h
 have hE := handle_laid h'.2
 obtain ⟨ps, ⟨g0, t0, cs0, f0, p0, q0, hg0, ht0, hv0, hd0, _⟩, _, _⟩ := h'.1
 obtain rfl := Option.some.inj (gNat.symm.trans hg0)
 obtain rfl := Option.some.inj (tNat.symm.trans ht0)
 obtain ⟨xs, m1, hx0, hx1, hlen, hn3, hel⟩ := DataW.trod_array uNat hd0
 have hm : xs.map (·.1) = [.lit (.int .i64 0), .lit (.int .i64 2), .lit (.int .i64 4), .lit (.int .i64 5), .lit (.int .i64 7), .lit (.int .i64 9), .lit (.int .i64 11)] := by
  have := congrArg Prod.fst hx1
  simp only [Rows.laid_partbook_pitch_naturals, DataW.agg.injEq] at this
  exact this.symm
 have key : ∀ j, j < 7 → ∃ k, cs0[j]? = some (.int .i64 k) ∧ (xs.map (·.1))[j]? = some (.lit (.int .i64 k)) := fun j hj => by
  have h0 := hel j hj
  rw [cn3, Nat.mul_one, zA1 (by omega)] at h0
  obtain ⟨k, e1, e2, _⟩ := DataW.trod_int lk3.und_int h0
  refine ⟨k, ?_, ?_⟩
  · have := congrArg (fun l => l[0]?) e1
    simpa using this
  · rw [zA9, zA1 (by omega), e2]; rfl
 have hN : ∀ (j : Nat) v, [Value.int .i64 0, .int .i64 2, .int .i64 4, .int .i64 5, .int .i64 7, .int .i64 9, .int .i64 11][j]? = some v → W.cell? ⟨1, j, none⟩ = some v := fun j v hv => by
  have hj : j < 7 := by
   rcases nLg j 7 with h | h
   · exact h
   · rw [zA4 (by simpa using h)] at hv; cases hv
  obtain ⟨k, h1, h2⟩ := key j hj
  rw [hm] at h2
  have hk : v = .int .i64 k := by
   match j, hj, hv, h2 with
   | 0, _, hv, h2 | 1, _, hv, h2 | 2, _, hv, h2 | 3, _, hv, h2 | 4, _, hv, h2 | 5, _, hv, h2 | 6, _, hv, h2 => simp at hv h2; rw [← hv, ← h2]
  rw [hk, World.var?_cell hg0 hv0 j]; exact h1
 intro p hp j v hv
 simp only [Gam, zB3, zCs, or_false] at hp
 rcases hp with rfl | rfl
 · dsimp only at hv ⊢
   match j, hv with
   | 0, hv => simp at hv; subst hv; exact hE
   | j + 1, hv => simp at hv
 · exact hN j v hv
end Go.Proofs.YtdglbdfdkabjfaaGreatDoor
set_option maxRecDepth 20000
namespace Go.Proofs.YtdglbdfdkabjfaaGreatDoor.Ed
open Go.Ab Go.ChangeShapes Go.WideShapes
section
variable {H : Type} {enc : TypeId × Value → H} {W : World} {base b0 fuel : Nat} {held : Bool} {spare : Nat → Bool}
theorem cnT9 : Tryz.prog.cellsOf 9 = 1 := by kernel_rfl
theorem cnSP : Tryz.prog.cellsOf 27 = 1 := by kernel_rfl
theorem cnSL : Tryz.prog.cellsOf 28 = 1 := by kernel_rfl
theorem cnEd : Tryz.prog.cellsOf 30 = 4 := by kernel_rfl
theorem cnLe : Tryz.prog.cellsOf 71 = 2 := by kernel_rfl
theorem cnPr : Tryz.prog.cellsOf 67 = 3 := by kernel_rfl
theorem cnVi : Tryz.prog.cellsOf 46 = 2 := by kernel_rfl
theorem ctEd : Tryz.prog.cellTypes Tryz.prog.depth 30 = some [3, 3, 27, 28] := by kernel_rfl
theorem lkT9 : LOk Tryz.prog 9 ⟨.str, 1, 16, [.str]⟩ := .of (tabOk.get rfl)
theorem lkSP : LOk Tryz.prog 27 ⟨.slice 67, 1, 24, [.slice]⟩ := .of (tabOk.get rfl)
theorem lkSL : LOk Tryz.prog 28 ⟨.slice 71, 1, 24, [.slice]⟩ := .of (tabOk.get rfl)
theorem lkEd : LOk Tryz.prog 30 ⟨.struct [(3, 0, 1), (3, 1, 1), (27, 2, 1), (28, 3, 1)], 4, 64, [.i .i64, .i .i64, .slice, .slice]⟩ := .of (tabOk.get rfl)
theorem lkLe : LOk Tryz.prog 71 ⟨.struct [(9, 0, 1), (3, 1, 1)], 2, 24, [.str, .i .i64]⟩ := .of (tabOk.get rfl)
theorem lkPr : LOk Tryz.prog 67 ⟨.struct [(3, 0, 1), (3, 1, 1), (3, 2, 1)], 3, 24, [.i .i64, .i .i64, .i .i64]⟩ := .of (tabOk.get rfl)
theorem lkVi : LOk Tryz.prog 46 ⟨.struct [(3, 0, 1), (3, 1, 1)], 2, 16, [.i .i64, .i .i64]⟩ := .of (tabOk.get rfl)
theorem printed_rd {cs : List Value} {x : DataW H × List MemPlace} (h : DataW.trod enc Tryz.prog W base spare held fuel 67 cs = some x) : ∃ a : Printed, (encP a).length = 3 ∧ (∀ (j : Nat) c, (encP a)[j]? = some c → VRel (memOf W) [] c (cs.getD j undef)) ∧ True := by
 obtain ⟨hlen, n, hf⟩ := struct_rd lkPr h
 rw [cnPr] at hlen
 match cs, hlen with
 | [u0, u1, u2], _ =>
   obtain ⟨y0, h0⟩ := hf 0 3 0 1 rfl
   obtain ⟨y1, h1⟩ := hf 1 3 1 1 rfl
   obtain ⟨y2, h2⟩ := hf 2 3 2 1 rfl
   rw [cn3] at h0 h1 h2
   obtain ⟨n0, e0, _⟩ := int_rd lk3 h0
   obtain ⟨n1, e1, _⟩ := int_rd lk3 h1
   obtain ⟨n2, e2, _⟩ := int_rd lk3 h2
   simp at e0 e1 e2
   subst e0 e1 e2
   refine ⟨⟨n0, n1, n2⟩, rfl, fun j c hj => ?_, trivial⟩
   match j, hj with
   | 0, hj => simp [encP] at hj; subst hj; exact .prim _
   | 1, hj => simp [encP] at hj; subst hj; exact .prim _
   | 2, hj => simp [encP] at hj; subst hj; exact .prim _
   | j + 3, hj => simp [encP] at hj
theorem letter_rd {cs : List Value} {x : DataW H × List MemPlace} (h : DataW.trod enc Tryz.prog W base spare held fuel 71 cs = some x) : ∃ a : Letter, (encL a).length = 2 ∧ (∀ (j : Nat) c, (encL a)[j]? = some c → VRel (memOf W) [] c (cs.getD j undef)) ∧ a.name.size ≤ maxLen := by
 obtain ⟨hlen, n, hf⟩ := struct_rd lkLe h
 rw [cnLe] at hlen
 match cs, hlen with
 | [u0, u1], _ =>
   obtain ⟨y0, h0⟩ := hf 0 9 0 1 rfl
   obtain ⟨y1, h1⟩ := hf 1 3 1 1 rfl
   rw [cnT9] at h0
   rw [cn3] at h1
   obtain ⟨n0, e0, hs⟩ := str_rd lkT9 h0
   obtain ⟨n1, e1, _⟩ := int_rd lk3 h1
   simp at e0 e1
   subst e0 e1
   refine ⟨⟨n0, n1⟩, rfl, fun j c hj => ?_, hs⟩
   match j, hj with
   | 0, hj => simp [encL] at hj; subst hj; exact .prim _
   | 1, hj => simp [encL] at hj; subst hj; exact .prim _
   | j + 2, hj => simp [encL] at hj
theorem argEdition {r : Reach} {v : Value} {d : DataW H} {p : List MemPlace} (hval : Value.okWide Tryz.prog W r b0 30 v) (h : DataW.Trod enc Tryz.prog W base spare held 30 v d p) : ∃ e : Edition, VRel (memOf W) [] (.agg (encE e)) v ∧ Wf e := by
 obtain ⟨cs, rfl, hsz, hspot⟩ := struct_ok lkEd ctEd hval
 obtain ⟨fuel, hf⟩ := h
 obtain ⟨hlen, n, hf⟩ := struct_rd lkEd hf
 rw [cnEd] at hsz
 obtain ⟨l, rfl⟩ : ∃ l, cs = List.toArray l := ⟨cs.toList, by simp⟩
 simp only [Value.cells] at hf
 match l, hsz with
 | [u0, u1, u2, u3], _ =>
   obtain ⟨y0, h0⟩ := hf 0 3 0 1 rfl
   obtain ⟨y1, h1⟩ := hf 1 3 1 1 rfl
   obtain ⟨y2, h2⟩ := hf 2 27 2 1 rfl
   obtain ⟨y3, h3⟩ := hf 3 28 3 1 rfl
   rw [cn3] at h0 h1
   rw [cnSP] at h2
   rw [cnSL] at h3
   obtain ⟨n0, e0, _⟩ := int_rd lk3 h0
   obtain ⟨n1, e1, _⟩ := int_rd lk3 h1
   simp at e0 e1
   subst e0 e1
   obtain ⟨bs, g1, g2, _⟩ := slice_rel encP (fun _ => True) (v := u2) lkSP.und_slice cnPr (by decide) (fun n cs y h => printed_rd h) (fun a len cap he => hspot 2 27 67 a len cap (by decide) rfl lkSP.und_slice (by simp [he])) h2
   obtain ⟨ls, g3, g4, g5⟩ := slice_rel encL (fun l => l.name.size ≤ maxLen) (v := u3) lkSL.und_slice cnLe (by decide) (fun n cs y h => letter_rd h) (fun a len cap he => hspot 3 28 71 a len cap (by decide) rfl lkSL.und_slice (by simp [he])) h3
   refine ⟨⟨n0, n1, bs, ls⟩, .agg _ _ rfl fun i c hi => ?_, ⟨g2, g4, g5⟩⟩
   match i, hi with
   | 0, hi => simp [encE] at hi; subst hi; exact .prim _
   | 1, hi => simp [encE] at hi; subst hi; exact .prim _
   | 2, hi => simp [encE] at hi; subst hi; exact g1
   | 3, hi => simp [encE] at hi; subst hi; exact g3
   | i + 4, hi => simp [encE] at hi
end
end Go.Proofs.YtdglbdfdkabjfaaGreatDoor.Ed
set_option maxRecDepth 20000
namespace Go.Proofs.YtdglbdfdkabjfaaGreatDoor.Pl
open Go.Ab Go.Pl Go.ChangeShapes Go.WideShapes Ed
section
variable {H : Type} {enc : TypeId × Value → H} {W : World} {base b0 fuel : Nat} {held : Bool} {spare : Nat → Bool}
theorem lkRp : LOk Tryz.prog 146 ⟨.struct [(3, 0, 1), (3, 1, 1), (3, 2, 1)], 3, 24, [.i .i64, .i .i64, .i .i64]⟩ := .of (tabOk.get rfl)
theorem lkEn : LOk Tryz.prog 184 ⟨.struct [(3, 0, 1), (3, 1, 1), (3, 2, 1)], 3, 24, [.i .i64, .i .i64, .i .i64]⟩ := .of (tabOk.get rfl)
theorem lkCt : LOk Tryz.prog 83 ⟨.struct [(3, 0, 1), (3, 1, 1), (3, 2, 1)], 3, 24, [.i .i64, .i .i64, .i .i64]⟩ := .of (tabOk.get rfl)
theorem lkJp : LOk Tryz.prog 34 ⟨.struct [(3, 0, 1), (3, 1, 1), (3, 2, 1)], 3, 24, [.i .i64, .i .i64, .i .i64]⟩ := .of (tabOk.get rfl)
theorem cnRp : Tryz.prog.cellsOf 146 = 3 := by kernel_rfl
theorem cnEn : Tryz.prog.cellsOf 184 = 3 := by kernel_rfl
theorem cnCt : Tryz.prog.cellsOf 83 = 3 := by kernel_rfl
theorem cnJp : Tryz.prog.cellsOf 34 = 3 := by kernel_rfl
theorem lkSRp : LOk Tryz.prog 31 ⟨.slice 146, 1, 24, [.slice]⟩ := .of (tabOk.get rfl)
theorem lkSEn : LOk Tryz.prog 32 ⟨.slice 184, 1, 24, [.slice]⟩ := .of (tabOk.get rfl)
theorem lkSCt : LOk Tryz.prog 35 ⟨.slice 83, 1, 24, [.slice]⟩ := .of (tabOk.get rfl)
theorem lkSIn : LOk Tryz.prog 38 ⟨.slice 3, 1, 24, [.slice]⟩ := .of (tabOk.get rfl)
theorem cnSRp : Tryz.prog.cellsOf 31 = 1 := by kernel_rfl
theorem cnSEn : Tryz.prog.cellsOf 32 = 1 := by kernel_rfl
theorem cnSCt : Tryz.prog.cellsOf 35 = 1 := by kernel_rfl
theorem cnSIn : Tryz.prog.cellsOf 38 = 1 := by kernel_rfl
theorem three_rd {t : TypeId} (lk : LOk Tryz.prog t ⟨.struct [(3, 0, 1), (3, 1, 1), (3, 2, 1)], 3, 24, [.i .i64, .i .i64, .i .i64]⟩) (cn : Tryz.prog.cellsOf t = 3) {cs : List Value} {x : DataW H × List MemPlace} (h : DataW.trod enc Tryz.prog W base spare held fuel t cs = some x) : ∃ a b c : Int, cs = [vI a, vI b, vI c] := by
 obtain ⟨hlen, n, hf⟩ := struct_rd lk h
 rw [cn] at hlen
 match cs, hlen with
 | [u0, u1, u2], _ =>
   obtain ⟨y0, h0⟩ := hf 0 3 0 1 rfl
   obtain ⟨y1, h1⟩ := hf 1 3 1 1 rfl
   obtain ⟨y2, h2⟩ := hf 2 3 2 1 rfl
   rw [cn3] at h0 h1 h2
   obtain ⟨n0, e0, _⟩ := int_rd lk3 h0
   obtain ⟨n1, e1, _⟩ := int_rd lk3 h1
   obtain ⟨n2, e2, _⟩ := int_rd lk3 h2
   simp at e0 e1 e2
   subst e0 e1 e2
   exact ⟨n0, n1, n2, rfl⟩
theorem three_rel {a b c : Int} : ∀ (j : Nat) v, [AV.int a, AV.int b, AV.int c][j]? = some v → VRel (memOf W) [] v ([vI a, vI b, vI c].getD j undef) := fun j v hj => by
 match j, hj with
 | 0, hj => simp at hj; subst hj; exact .prim _
 | 1, hj => simp at hj; subst hj; exact .prim _
 | 2, hj => simp at hj; subst hj; exact .prim _
 | j + 3, hj => simp at hj
theorem lkFo : LOk Tryz.prog 37 ⟨.struct [(3, 0, 1), (31, 1, 1), (32, 2, 1), (34, 3, 3), (35, 6, 1)], 7, 104, [.i .i64, .slice, .slice, .i .i64, .i .i64, .i .i64, .slice]⟩ := .of (tabOk.get rfl)
theorem cnFo : Tryz.prog.cellsOf 37 = 7 := by kernel_rfl
theorem form_rd {cs : List Value} {x : DataW H × List MemPlace} (hspot : ∀ i e a len cap, i = 1 ∨ i = 2 ∨ i = 6 → cs[i]? = some (.slice (some a) len cap) → e = i → a.spot = none) (h : DataW.trod enc Tryz.prog W base spare held fuel 37 cs = some x) :
 ∃ f : PForm, FSized f ∧ cs.length = 7 ∧ ∀ (j : Nat) c, (encF f)[j]? = some c → VRel (memOf W) [] c (cs.getD j undef) := by
 obtain ⟨hlen, n, hf⟩ := struct_rd lkFo h
 rw [cnFo] at hlen
 match cs, hlen with
 | [u0, u1, u2, u3, u4, u5, u6], _ =>
   obtain ⟨y0, h0⟩ := hf 0 3 0 1 rfl
   obtain ⟨y1, h1⟩ := hf 1 31 1 1 rfl
   obtain ⟨y2, h2⟩ := hf 2 32 2 1 rfl
   obtain ⟨y3, h3⟩ := hf 3 34 3 3 rfl
   obtain ⟨y4, h4⟩ := hf 4 35 6 1 rfl
   rw [cn3] at h0
   rw [cnSRp] at h1
   rw [cnSEn] at h2
   rw [cnJp] at h3
   rw [cnSCt] at h4
   obtain ⟨n0, e0, _⟩ := int_rd lk3 h0
   simp at e0
   subst e0
   obtain ⟨ja, jt, jf, e3⟩ := three_rd lkJp cnJp h3
   simp at e3
   obtain ⟨rfl, rfl, rfl⟩ := e3
   obtain ⟨rs, g1, g2, _⟩ := slice_rel encRp (fun _ => True) (v := u1) lkSRp.und_slice cnRp (by decide) (fun n cs y h => by
    obtain ⟨a, b, c, rfl⟩ := three_rd lkRp cnRp h
    exact ⟨⟨a, b, c⟩, rfl, three_rel, trivial⟩) (fun a len cap he => hspot 1 1 a len cap (.inl rfl) (by simp [he]) rfl) h1
   obtain ⟨es, g3, g4, _⟩ := slice_rel encEn (fun _ => True) (v := u2) lkSEn.und_slice cnEn (by decide) (fun n cs y h => by
    obtain ⟨a, b, c, rfl⟩ := three_rd lkEn cnEn h
    exact ⟨⟨a, b, c⟩, rfl, three_rel, trivial⟩) (fun a len cap he => hspot 2 2 a len cap (.inr (.inl rfl)) (by simp [he]) rfl) h2
   obtain ⟨ks, g5, g6, _⟩ := slice_rel encCt (fun _ => True) (v := u6) lkSCt.und_slice cnCt (by decide) (fun n cs y h => by
    obtain ⟨a, b, c, rfl⟩ := three_rd lkCt cnCt h
    exact ⟨⟨a, b, c⟩, rfl, three_rel, trivial⟩) (fun a len cap he => hspot 6 6 a len cap (.inr (.inr rfl)) (by simp [he]) rfl) h4
   refine ⟨⟨n0, rs, es, ⟨ja, jt, jf⟩, ks⟩, ⟨g2, g4, g6⟩, rfl, fun j c hj => ?_⟩
   match j, hj with
   | 0, hj => simp [encF] at hj; subst hj; exact .prim _
   | 1, hj => simp [encF] at hj; subst hj; exact g1
   | 2, hj => simp [encF] at hj; subst hj; exact g3
   | 3, hj => simp [encF] at hj; subst hj; exact .prim _
   | 4, hj => simp [encF] at hj; subst hj; exact .prim _
   | 5, hj => simp [encF] at hj; subst hj; exact .prim _
   | 6, hj => simp [encF] at hj; subst hj; exact g5
   | j + 7, hj => simp [encF] at hj
theorem lkRm : LOk Tryz.prog 40 ⟨.struct [(3, 0, 1), (37, 1, 7), (38, 8, 1)], 9, 136, [.i .i64, .i .i64, .slice, .slice, .i .i64, .i .i64, .i .i64, .slice, .slice]⟩ := .of (tabOk.get rfl)
theorem cnRm : Tryz.prog.cellsOf 40 = 9 := by kernel_rfl
theorem ctRm : Tryz.prog.cellTypes Tryz.prog.depth 40 = some [3, 3, 31, 32, 3, 3, 3, 35, 38] := by kernel_rfl
theorem argRoom {r : Reach} {v : Value} {d : DataW H} {p : List MemPlace} (hval : Value.okWide Tryz.prog W r b0 40 v) (h : DataW.Trod enc Tryz.prog W base spare held 40 v d p) : ∃ q : Room, VRel (memOf W) [] (.agg (encRm q)) v ∧ FSized q.form := by
 obtain ⟨cs, rfl, hsz, hspot⟩ := struct_ok lkRm ctRm hval
 obtain ⟨fuel, hf⟩ := h
 obtain ⟨l, rfl⟩ : ∃ l, cs = List.toArray l := ⟨cs.toList, by simp⟩
 simp only [Value.cells] at hf
 obtain ⟨hlen, n, hf⟩ := struct_rd lkRm hf
 rw [cnRm] at hlen
 match l, hlen with
 | [u0, u1, u2, u3, u4, u5, u6, u7, u8], _ =>
   obtain ⟨y0, h0⟩ := hf 0 3 0 1 rfl
   obtain ⟨y1, h1⟩ := hf 1 37 1 7 rfl
   obtain ⟨y2, h2⟩ := hf 2 38 8 1 rfl
   rw [cn3] at h0
   rw [cnFo] at h1
   rw [cnSIn] at h2
   obtain ⟨n0, e0, _⟩ := int_rd lk3 h0
   simp at e0
   subst e0
   obtain ⟨f, hz, _, g1⟩ := form_rd (fun i e a len cap hi hc he => by
    rcases hi with rfl | rfl | rfl
    · exact hspot 2 _ _ a len cap (by decide) rfl lkSRp.und_slice (by simpa using hc)
    · exact hspot 3 _ _ a len cap (by decide) rfl lkSEn.und_slice (by simpa using hc)
    · exact hspot 7 _ _ a len cap (by decide) rfl lkSCt.und_slice (by simpa using hc)) h1
   obtain ⟨os, g2, _, _⟩ := slice_rel (fun n : Int => [AV.int n]) (fun _ => True) (v := u8) lkSIn.und_slice cn3 (by decide) (fun n cs y h => by
    obtain ⟨a, rfl, _⟩ := int_rd lk3 h
    refine ⟨a, rfl, fun j c hj => ?_, trivial⟩
    match j, hj with
    | 0, hj => simp at hj; subst hj; exact .prim _
    | j + 1, hj => simp at hj) (fun a len cap he => hspot 8 _ _ a len cap (by decide) rfl lkSIn.und_slice (by simp [he])) h2
   refine ⟨⟨n0, f, os⟩, .agg _ _ rfl fun i c hi => ?_, hz⟩
   match i, hi with
   | 0, hi => simp [encRm] at hi; subst hi; exact .prim _
   | 1, hi => simp [encRm] at hi; subst hi; simpa using g1 0 _ rfl
   | 2, hi => simp [encRm] at hi; subst hi; simpa using g1 1 _ rfl
   | 3, hi => simp [encRm] at hi; subst hi; simpa using g1 2 _ rfl
   | 4, hi => simp [encRm] at hi; subst hi; simpa using g1 3 _ rfl
   | 5, hi => simp [encRm] at hi; subst hi; simpa using g1 4 _ rfl
   | 6, hi => simp [encRm] at hi; subst hi; simpa using g1 5 _ rfl
   | 7, hi => simp [encRm] at hi; subst hi; simpa using g1 6 _ rfl
   | 8, hi => simp [encRm] at hi; subst hi; exact g2
   | i + 9, hi => simp [encRm] at hi
theorem lkCl : LOk Tryz.prog 44 ⟨.struct [(9, 0, 1), (3, 1, 1), (3, 2, 1), (42, 3, 2), (3, 5, 1)], 6, 56, [.str, .i .i64, .i .i64, .i .i64, .i .i64, .i .i64]⟩ := .of (tabOk.get rfl)
theorem cnCl : Tryz.prog.cellsOf 44 = 6 := by kernel_rfl
theorem ctCl : Tryz.prog.cellTypes Tryz.prog.depth 44 = some [9, 3, 3, 3, 3, 3] := by kernel_rfl
theorem argCall {r : Reach} {v : Value} {d : DataW H} {p : List MemPlace} (hval : Value.okWide Tryz.prog W r b0 44 v) (h : DataW.Trod enc Tryz.prog W base spare held 44 v d p) : ∃ c : Call, VRel (memOf W) [] (.agg (encCl c)) v ∧ c.letter.size ≤ 9223372036854775807 := by
 obtain ⟨cs, rfl, hsz, _⟩ := struct_ok lkCl ctCl hval
 obtain ⟨fuel, hf⟩ := h
 obtain ⟨l, rfl⟩ : ∃ l, cs = List.toArray l := ⟨cs.toList, by simp⟩
 simp only [Value.cells] at hf
 obtain ⟨hlen, n, hf⟩ := struct_rd lkCl hf
 rw [cnCl] at hlen
 match l, hlen with
 | [u0, u1, u2, u3, u4, u5], _ =>
   obtain ⟨y0, h0⟩ := hf 0 9 0 1 rfl
   obtain ⟨y1, h1⟩ := hf 1 3 1 1 rfl
   obtain ⟨y2, h2⟩ := hf 2 3 2 1 rfl
   obtain ⟨y3, h3⟩ := hf 3 42 3 2 rfl
   obtain ⟨y4, h4⟩ := hf 4 3 5 1 rfl
   rw [cnT9] at h0
   rw [cn3] at h1 h2 h4
   rw [cnRat] at h3
   obtain ⟨n0, e0, hs⟩ := str_rd lkT9 h0
   obtain ⟨n1, e1, _⟩ := int_rd lk3 h1
   obtain ⟨n2, e2, _⟩ := int_rd lk3 h2
   obtain ⟨q, e3⟩ := rdRat h3
   obtain ⟨n4, e4, _⟩ := int_rd lk3 h4
   simp at e0 e1 e2 e4
   have q3 : [u3, u4] = [vI q.n, vI q.d] := by simpa [vRat] using e3
   simp at q3
   obtain ⟨q3, q5⟩ := q3
   clear e3
   subst e0 e1 e2 q3 e4 q5
   refine ⟨⟨n0, n1, n2, q, n4⟩, .agg _ _ rfl fun i c hi => ?_, hs⟩
   match i, hi with
   | 0, hi => simp [encCl] at hi; subst hi; exact .prim _
   | 1, hi => simp [encCl] at hi; subst hi; exact .prim _
   | 2, hi => simp [encCl] at hi; subst hi; exact .prim _
   | 3, hi => simp [encCl] at hi; subst hi; exact .prim _
   | 4, hi => simp [encCl] at hi; subst hi; exact .prim _
   | 5, hi => simp [encCl] at hi; subst hi; exact .prim _
   | i + 6, hi => simp [encCl] at hi
theorem lkMo : LOk Tryz.prog 48 ⟨.struct [(46, 0, 2), (42, 2, 2)], 4, 32, [.i .i64, .i .i64, .i .i64, .i .i64]⟩ := .of (tabOk.get rfl)
theorem cnMo : Tryz.prog.cellsOf 48 = 4 := by kernel_rfl
theorem ctMo : Tryz.prog.cellTypes Tryz.prog.depth 48 = some [3, 3, 3, 3] := by kernel_rfl
theorem argMoment {r : Reach} {v : Value} {d : DataW H} {p : List MemPlace} (hval : Value.okWide Tryz.prog W r b0 48 v) (h : DataW.Trod enc Tryz.prog W base spare held 48 v d p) : ∃ m : Mom, VRel (memOf W) [] (.agg (encMo m)) v := by
 obtain ⟨cs, rfl, hsz, _⟩ := struct_ok lkMo ctMo hval
 obtain ⟨fuel, hf⟩ := h
 obtain ⟨l, rfl⟩ : ∃ l, cs = List.toArray l := ⟨cs.toList, by simp⟩
 simp only [Value.cells] at hf
 obtain ⟨hlen, n, hf⟩ := struct_rd lkMo hf
 rw [cnMo] at hlen
 match l, hlen with
 | [u0, u1, u2, u3], _ =>
   obtain ⟨y0, h0⟩ := hf 0 46 0 2 rfl
   obtain ⟨y1, h1⟩ := hf 1 42 2 2 rfl
   rw [cnVi] at h0
   rw [cnRat] at h1
   obtain ⟨q, e1⟩ := rdRat h1
   have q1 : [u2, u3] = [vI q.n, vI q.d] := by simpa [vRat] using e1
   simp at q1
   obtain ⟨q1, q2⟩ := q1
   clear e1
   obtain ⟨_, n2, hf2⟩ := struct_rd lkVi h0
   obtain ⟨y3, h3⟩ := hf2 0 3 0 1 rfl
   obtain ⟨y4, h4⟩ := hf2 1 3 1 1 rfl
   rw [cn3] at h3 h4
   obtain ⟨n3, e3, _⟩ := int_rd lk3 h3
   obtain ⟨n4, e4, _⟩ := int_rd lk3 h4
   simp at e3 e4
   subst q1 q2 e3 e4
   refine ⟨⟨n3, n4, q⟩, .agg _ _ rfl fun i c hi => ?_⟩
   match i, hi with
   | 0, hi => simp [encMo] at hi; subst hi; exact .prim _
   | 1, hi => simp [encMo] at hi; subst hi; exact .prim _
   | 2, hi => simp [encMo] at hi; subst hi; exact .prim _
   | 3, hi => simp [encMo] at hi; subst hi; exact .prim _
   | i + 4, hi => simp [encMo] at hi
theorem ctCt : Tryz.prog.cellTypes Tryz.prog.depth 83 = some [3, 3, 3] := by kernel_rfl
theorem argCut {r : Reach} {v : Value} {d : DataW H} {p : List MemPlace} (hval : Value.okWide Tryz.prog W r b0 83 v) (h : DataW.Trod enc Tryz.prog W base spare held 83 v d p) : ∃ k : PCut, VRel (memOf W) [] (.agg (encCt k)) v := by
 obtain ⟨cs, rfl, hsz, _⟩ := struct_ok lkCt ctCt hval
 obtain ⟨fuel, hf⟩ := h
 obtain ⟨l, rfl⟩ : ∃ l, cs = List.toArray l := ⟨cs.toList, by simp⟩
 simp only [Value.cells] at hf
 obtain ⟨a, b, c, e⟩ := three_rd lkCt cnCt hf
 have e : l = [vI a, vI b, vI c] := by simpa using e
 subst e
 refine ⟨⟨a, b, c⟩, .agg _ _ rfl fun i c hi => ?_⟩
 have := three_rel (W := W) i c hi
 simpa using this
theorem ctRa : Tryz.prog.cellTypes Tryz.prog.depth 42 = some [3, 3] := by kernel_rfl
theorem argRat {r : Reach} {v : Value} {d : DataW H} {p : List MemPlace} (hval : Value.okWide Tryz.prog W r b0 42 v) (h : DataW.Trod enc Tryz.prog W base spare held 42 v d p) : ∃ q : Rat, VRel (memOf W) [] (.agg (encR q)) v := by
 obtain ⟨cs, rfl, hsz, _⟩ := struct_ok lkRat ctRa hval
 obtain ⟨fuel, hf⟩ := h
 obtain ⟨l, rfl⟩ : ∃ l, cs = List.toArray l := ⟨cs.toList, by simp⟩
 simp only [Value.cells] at hf
 obtain ⟨q, e⟩ := rdRat hf
 have e : l = vRat q := by simpa using e
 subst e
 refine ⟨q, .agg _ _ rfl fun i c hi => ?_⟩
 have := relRat (W := W) q i c hi
 simpa using this
end
end Go.Proofs.YtdglbdfdkabjfaaGreatDoor.Pl
