/- What is handed in to the laws over scores reads as a content.  What is handed in to the laws over marks reads as a content.  Integers and clashes that are handed in read as a content. No statement is proved here. -/
import Derived.LaidMore
import Derived.MakeChecks
import Derived.SizedLaws
import Derived.Test.YtficfljjnbnhbaaGreatDoorP3
import Derived.Test.YtficfljjnbnhbaaGreatDoorP15
import Derived.Test.YtficfljjnbnhbaaGreatDoorP16
import Derived.Test.YtficfljjnbnhbaaGreatDoorP20
set_option linter.unusedVariables false
set_option linter.unusedSimpArgs false
set_option maxRecDepth 20000
namespace Go.Ab
open Go.ChangeShapes Go.WideShapes
theorem slice_ok1 {P : Program} {w : World} {r : Reach} {b0 : Nat} {t e : TypeId} {v : Value} (hu : P.underlying t = some (.slice e)) (hv : Value.okWide P w r b0 t v) : ∀ a len cap, v = .slice (some a) len cap → a.spot = none := fun a len cap he => by
 subst he
 unfold Value.okWide at hv
 rw [hu] at hv
 simp only at hv
 unfold Cell.okWide at hv
 simp only [hu] at hv
 unfold Cell.ok at hv
 simp only [hu] at hv
 exact hv.2.2.2.1
theorem slice_val1 {P : Program} {w : World} {r : Reach} {b0 : Nat} {t e : TypeId} {v : Value} (hu : P.underlying t = some (.slice e)) (hv : Value.okWide P w r b0 t v) : v.cells.toList = [v] := by
 unfold Value.okWide at hv
 rw [hu] at hv
 simp only at hv
 unfold Cell.okWide at hv
 simp only [hu] at hv
 cases v with
 | slice a l c => simp [Value.cells]
 | _ => unfold Cell.ok at hv; simp [hu] at hv
end Go.Ab
namespace Go.Proofs.YtficfljjnbnhbaaGreatDoor
open Go.Ab Go.ChangeShapes Go.WideShapes
section
variable {H : Type} {enc : TypeId × Value → H} {W : World} {base b0 fuel : Nat} {held : Bool} {spare : Nat → Bool}
abbrev vI (n : Int) : Value := .int .i64 n
theorem lk3 : LOk Tryz.prog 3 ⟨.int .i64, 1, 8, [.i .i64]⟩ := .of (tabOk.get rfl)
theorem cn3 : Tryz.prog.cellsOf 3 = 1 := by kernel_rfl
theorem lkRat : LOk Tryz.prog 59 ⟨.struct [(3, 0, 1), (3, 1, 1)], 2, 16, [.i .i64, .i .i64]⟩ := .of (tabOk.get rfl)
theorem cnRat : Tryz.prog.cellsOf 59 = 2 := by kernel_rfl
def vRat (x : Rat) : List Value := [vI x.n] ++ [vI x.d]
theorem rdRat {cs : List Value} {y : DataW H × List MemPlace} (h : DataW.trod enc Tryz.prog W base spare held fuel 59 cs = some y) : ∃ x : Rat, cs = vRat x := by
 obtain ⟨hlen, n, hf⟩ := struct_rd lkRat h
 rw [cnRat] at hlen
 match cs, hlen with
 | [u0, u1], _ =>
   obtain ⟨y0, h0⟩ := hf 0 3 0 1 rfl
   obtain ⟨y1, h1⟩ := hf 1 3 1 1 rfl
   rw [cn3] at h0 h1
   obtain ⟨n0, e0, _⟩ := int_rd lk3 h0
   obtain ⟨n1, e1, _⟩ := int_rd lk3 h1
   have g0 : u0 = vI n0 := by simpa using e0
   have g1 : u1 = vI n1 := by simpa using e1
   refine ⟨⟨n0, n1⟩, ?_⟩
   subst g0
   subst g1
   unfold vRat
   rfl
theorem lkInterval : LOk Tryz.prog 48 ⟨.struct [(3, 0, 1), (3, 1, 1)], 2, 16, [.i .i64, .i .i64]⟩ := .of (tabOk.get rfl)
theorem cnInterval : Tryz.prog.cellsOf 48 = 2 := by kernel_rfl
def vInterval (x : Interval) : List Value := [vI x.steps] ++ [vI x.semi]
theorem rdInterval {cs : List Value} {y : DataW H × List MemPlace} (h : DataW.trod enc Tryz.prog W base spare held fuel 48 cs = some y) : ∃ x : Interval, cs = vInterval x := by
 obtain ⟨hlen, n, hf⟩ := struct_rd lkInterval h
 rw [cnInterval] at hlen
 match cs, hlen with
 | [u0, u1], _ =>
   obtain ⟨y0, h0⟩ := hf 0 3 0 1 rfl
   obtain ⟨y1, h1⟩ := hf 1 3 1 1 rfl
   rw [cn3] at h0 h1
   obtain ⟨n0, e0, _⟩ := int_rd lk3 h0
   obtain ⟨n1, e1, _⟩ := int_rd lk3 h1
   have g0 : u0 = vI n0 := by simpa using e0
   have g1 : u1 = vI n1 := by simpa using e1
   refine ⟨⟨n0, n1⟩, ?_⟩
   subst g0
   subst g1
   unfold vInterval
   rfl
theorem lkPitch : LOk Tryz.prog 50 ⟨.struct [(3, 0, 1), (3, 1, 1), (3, 2, 1)], 3, 24, [.i .i64, .i .i64, .i .i64]⟩ := .of (tabOk.get rfl)
theorem cnPitch : Tryz.prog.cellsOf 50 = 3 := by kernel_rfl
def vPitch (x : Pitch) : List Value := [vI x.step] ++ [vI x.alter] ++ [vI x.oct]
theorem rdPitch {cs : List Value} {y : DataW H × List MemPlace} (h : DataW.trod enc Tryz.prog W base spare held fuel 50 cs = some y) : ∃ x : Pitch, cs = vPitch x := by
 obtain ⟨hlen, n, hf⟩ := struct_rd lkPitch h
 rw [cnPitch] at hlen
 match cs, hlen with
 | [u0, u1, u2], _ =>
   obtain ⟨y0, h0⟩ := hf 0 3 0 1 rfl
   obtain ⟨y1, h1⟩ := hf 1 3 1 1 rfl
   obtain ⟨y2, h2⟩ := hf 2 3 2 1 rfl
   rw [cn3] at h0 h1 h2
   obtain ⟨n0, e0, _⟩ := int_rd lk3 h0
   obtain ⟨n1, e1, _⟩ := int_rd lk3 h1
   obtain ⟨n2, e2, _⟩ := int_rd lk3 h2
   have g0 : u0 = vI n0 := by simpa using e0
   have g1 : u1 = vI n1 := by simpa using e1
   have g2 : u2 = vI n2 := by simpa using e2
   refine ⟨⟨n0, n1, n2⟩, ?_⟩
   subst g0
   subst g1
   subst g2
   unfold vPitch
   rfl
theorem lkBar : LOk Tryz.prog 125 ⟨.struct [(3, 0, 1), (59, 1, 2), (3, 3, 1)], 4, 32, [.i .i64, .i .i64, .i .i64, .i .i64]⟩ := .of (tabOk.get rfl)
theorem cnBar : Tryz.prog.cellsOf 125 = 4 := by kernel_rfl
def vBar (x : Bar) : List Value := [vI x.id] ++ vRat x.len ++ [vI x.key]
theorem rdBar {cs : List Value} {y : DataW H × List MemPlace} (h : DataW.trod enc Tryz.prog W base spare held fuel 125 cs = some y) : ∃ x : Bar, cs = vBar x := by
 obtain ⟨hlen, n, hf⟩ := struct_rd lkBar h
 rw [cnBar] at hlen
 match cs, hlen with
 | [u0, u1, u2, u3], _ =>
   obtain ⟨y0, h0⟩ := hf 0 3 0 1 rfl
   obtain ⟨y1, h1⟩ := hf 1 59 1 2 rfl
   obtain ⟨y2, h2⟩ := hf 2 3 3 1 rfl
   rw [cn3] at h0 h2
   rw [cnRat] at h1
   obtain ⟨n0, e0, _⟩ := int_rd lk3 h0
   obtain ⟨n1, e1⟩ := rdRat h1
   obtain ⟨n2, e2, _⟩ := int_rd lk3 h2
   have g0 : u0 = vI n0 := by simpa using e0
   have g1 : [u1, u2] = vRat n1 := by simpa using e1
   have g2 : u3 = vI n2 := by simpa using e2
   refine ⟨⟨n0, n1, n2⟩, ?_⟩
   subst g0
   subst g2
   unfold vBar
   rw [← g1]
   rfl
theorem relBar (x : Bar) : ∀ (j : Nat) c, (encB x)[j]? = some c → VRel (memOf W) [] c ((vBar x).getD j undef) := fun j c hj => by
 match j, hj with
 | 0, hj | 1, hj | 2, hj | 3, hj => simp only [encB, zBs, zCp, Option.some.injEq] at hj; subst hj; exact .prim _
 | j + 4, hj => simp [encB] at hj
theorem lkPart : LOk Tryz.prog 52 ⟨.struct [(3, 0, 1), (3, 1, 1), (3, 2, 1), (3, 3, 1), (3, 4, 1), (48, 5, 2), (50, 7, 3), (50, 10, 3)], 13, 104, [.i .i64, .i .i64, .i .i64, .i .i64, .i .i64, .i .i64, .i .i64, .i .i64, .i .i64, .i .i64, .i .i64, .i .i64, .i .i64]⟩ := .of (tabOk.get rfl)
theorem cnPart : Tryz.prog.cellsOf 52 = 13 := by kernel_rfl
def vPart (x : Part) : List Value := [vI x.id] ++ [vI x.section_] ++ [vI x.of_] ++ [vI x.octave] ++ [vI x.desks] ++ vInterval x.shift ++ vPitch x.low ++ vPitch x.high
theorem rdPart {cs : List Value} {y : DataW H × List MemPlace} (h : DataW.trod enc Tryz.prog W base spare held fuel 52 cs = some y) : ∃ x : Part, cs = vPart x := by
 obtain ⟨hlen, n, hf⟩ := struct_rd lkPart h
 rw [cnPart] at hlen
 match cs, hlen with
 | [u0, u1, u2, u3, u4, u5, u6, u7, u8, u9, u10, u11, u12], _ =>
   obtain ⟨y0, h0⟩ := hf 0 3 0 1 rfl
   obtain ⟨y1, h1⟩ := hf 1 3 1 1 rfl
   obtain ⟨y2, h2⟩ := hf 2 3 2 1 rfl
   obtain ⟨y3, h3⟩ := hf 3 3 3 1 rfl
   obtain ⟨y4, h4⟩ := hf 4 3 4 1 rfl
   obtain ⟨y5, h5⟩ := hf 5 48 5 2 rfl
   obtain ⟨y6, h6⟩ := hf 6 50 7 3 rfl
   obtain ⟨y7, h7⟩ := hf 7 50 10 3 rfl
   rw [cn3] at h0 h1 h2 h3 h4
   rw [cnInterval] at h5
   rw [cnPitch] at h6
   rw [cnPitch] at h7
   obtain ⟨n0, e0, _⟩ := int_rd lk3 h0
   obtain ⟨n1, e1, _⟩ := int_rd lk3 h1
   obtain ⟨n2, e2, _⟩ := int_rd lk3 h2
   obtain ⟨n3, e3, _⟩ := int_rd lk3 h3
   obtain ⟨n4, e4, _⟩ := int_rd lk3 h4
   obtain ⟨n5, e5⟩ := rdInterval h5
   obtain ⟨n6, e6⟩ := rdPitch h6
   obtain ⟨n7, e7⟩ := rdPitch h7
   have g0 : u0 = vI n0 := by simpa using e0
   have g1 : u1 = vI n1 := by simpa using e1
   have g2 : u2 = vI n2 := by simpa using e2
   have g3 : u3 = vI n3 := by simpa using e3
   have g4 : u4 = vI n4 := by simpa using e4
   have g5 : [u5, u6] = vInterval n5 := by simpa using e5
   have g6 : [u7, u8, u9] = vPitch n6 := by simpa using e6
   have g7 : [u10, u11, u12] = vPitch n7 := by simpa using e7
   refine ⟨⟨n0, n1, n2, n3, n4, n5, n6, n7⟩, ?_⟩
   subst g0
   subst g1
   subst g2
   subst g3
   subst g4
   unfold vPart
   rw [← g5]
   rw [← g6]
   rw [← g7]
   rfl
theorem relPart (x : Part) : ∀ (j : Nat) c, (encP x)[j]? = some c → VRel (memOf W) [] c ((vPart x).getD j undef) := fun j c hj => by
 match j, hj with
 | 0, hj | 1, hj | 2, hj | 3, hj | 4, hj | 5, hj | 6, hj | 7, hj | 8, hj | 9, hj | 10, hj | 11, hj | 12, hj => simp only [encP, zBs, zCp, Option.some.injEq] at hj; subst hj; exact .prim _
 | j + 13, hj => simp [encP] at hj
theorem lkNote : LOk Tryz.prog 61 ⟨.struct [(3, 0, 1), (3, 1, 1), (3, 2, 1), (3, 3, 1), (3, 4, 1), (59, 5, 2), (59, 7, 2), (50, 9, 3)], 12, 96, [.i .i64, .i .i64, .i .i64, .i .i64, .i .i64, .i .i64, .i .i64, .i .i64, .i .i64, .i .i64, .i .i64, .i .i64]⟩ := .of (tabOk.get rfl)
theorem cnNote : Tryz.prog.cellsOf 61 = 12 := by kernel_rfl
def vNote (x : Note) : List Value := [vI x.id] ++ [vI x.part] ++ [vI x.bar] ++ [vI x.voice] ++ [vI x.ossia] ++ vRat x.start ++ vRat x.len ++ vPitch x.pitch
theorem rdNote {cs : List Value} {y : DataW H × List MemPlace} (h : DataW.trod enc Tryz.prog W base spare held fuel 61 cs = some y) : ∃ x : Note, cs = vNote x := by
 obtain ⟨hlen, n, hf⟩ := struct_rd lkNote h
 rw [cnNote] at hlen
 match cs, hlen with
 | [u0, u1, u2, u3, u4, u5, u6, u7, u8, u9, u10, u11], _ =>
   obtain ⟨y0, h0⟩ := hf 0 3 0 1 rfl
   obtain ⟨y1, h1⟩ := hf 1 3 1 1 rfl
   obtain ⟨y2, h2⟩ := hf 2 3 2 1 rfl
   obtain ⟨y3, h3⟩ := hf 3 3 3 1 rfl
   obtain ⟨y4, h4⟩ := hf 4 3 4 1 rfl
   obtain ⟨y5, h5⟩ := hf 5 59 5 2 rfl
   obtain ⟨y6, h6⟩ := hf 6 59 7 2 rfl
   obtain ⟨y7, h7⟩ := hf 7 50 9 3 rfl
   rw [cn3] at h0 h1 h2 h3 h4
   rw [cnRat] at h5
   rw [cnRat] at h6
   rw [cnPitch] at h7
   obtain ⟨n0, e0, _⟩ := int_rd lk3 h0
   obtain ⟨n1, e1, _⟩ := int_rd lk3 h1
   obtain ⟨n2, e2, _⟩ := int_rd lk3 h2
   obtain ⟨n3, e3, _⟩ := int_rd lk3 h3
   obtain ⟨n4, e4, _⟩ := int_rd lk3 h4
   obtain ⟨n5, e5⟩ := rdRat h5
   obtain ⟨n6, e6⟩ := rdRat h6
   obtain ⟨n7, e7⟩ := rdPitch h7
   have g0 : u0 = vI n0 := by simpa using e0
   have g1 : u1 = vI n1 := by simpa using e1
   have g2 : u2 = vI n2 := by simpa using e2
   have g3 : u3 = vI n3 := by simpa using e3
   have g4 : u4 = vI n4 := by simpa using e4
   have g5 : [u5, u6] = vRat n5 := by simpa using e5
   have g6 : [u7, u8] = vRat n6 := by simpa using e6
   have g7 : [u9, u10, u11] = vPitch n7 := by simpa using e7
   refine ⟨⟨n0, n1, n2, n3, n4, n5, n6, n7⟩, ?_⟩
   subst g0
   subst g1
   subst g2
   subst g3
   subst g4
   unfold vNote
   rw [← g5]
   rw [← g6]
   rw [← g7]
   rfl
theorem relNote (x : Note) : ∀ (j : Nat) c, (encN x)[j]? = some c → VRel (memOf W) [] c ((vNote x).getD j undef) := fun j c hj => by
 match j, hj with
 | 0, hj | 1, hj | 2, hj | 3, hj | 4, hj | 5, hj | 6, hj | 7, hj | 8, hj | 9, hj | 10, hj | 11, hj => simp only [encN, zBs, zCp, Option.some.injEq] at hj; subst hj; exact .prim _
 | j + 12, hj => simp [encN] at hj
theorem lkSBar : LOk Tryz.prog 22 ⟨.slice 125, 1, 24, [.slice]⟩ := .of (tabOk.get rfl)
theorem cnSBar : Tryz.prog.cellsOf 22 = 1 := by kernel_rfl
theorem rdSBar {v : Value} {y : DataW H × List MemPlace} (hspot : ∀ a len cap, v = .slice (some a) len cap → a.spot = none) (h : DataW.trod enc Tryz.prog W base spare held fuel 22 [v] = some y) : ∃ l : List Bar, VRel (memOf W) [] (.sl 4 (l.map encB) .no) v ∧ l.length ≤ 9223372036854775807 := by
 obtain ⟨l, h1, h2, _⟩ := slice_rel (w := W) (enc := enc) (base := base) (held := held) (spare := spare) encB (fun _ => True) lkSBar.und_slice cnBar (by decide) (fun n cs y h => by
  obtain ⟨e, rfl⟩ := rdBar h
  exact ⟨e, rfl, relBar e, trivial⟩) hspot h
 exact ⟨l, h1, h2⟩
theorem lkSPart : LOk Tryz.prog 23 ⟨.slice 52, 1, 24, [.slice]⟩ := .of (tabOk.get rfl)
theorem cnSPart : Tryz.prog.cellsOf 23 = 1 := by kernel_rfl
theorem rdSPart {v : Value} {y : DataW H × List MemPlace} (hspot : ∀ a len cap, v = .slice (some a) len cap → a.spot = none) (h : DataW.trod enc Tryz.prog W base spare held fuel 23 [v] = some y) : ∃ l : List Part, VRel (memOf W) [] (.sl 13 (l.map encP) .no) v ∧ l.length ≤ 9223372036854775807 := by
 obtain ⟨l, h1, h2, _⟩ := slice_rel (w := W) (enc := enc) (base := base) (held := held) (spare := spare) encP (fun _ => True) lkSPart.und_slice cnPart (by decide) (fun n cs y h => by
  obtain ⟨e, rfl⟩ := rdPart h
  exact ⟨e, rfl, relPart e, trivial⟩) hspot h
 exact ⟨l, h1, h2⟩
theorem lkSNote : LOk Tryz.prog 24 ⟨.slice 61, 1, 24, [.slice]⟩ := .of (tabOk.get rfl)
theorem cnSNote : Tryz.prog.cellsOf 24 = 1 := by kernel_rfl
theorem rdSNote {v : Value} {y : DataW H × List MemPlace} (hspot : ∀ a len cap, v = .slice (some a) len cap → a.spot = none) (h : DataW.trod enc Tryz.prog W base spare held fuel 24 [v] = some y) : ∃ l : List Note, VRel (memOf W) [] (.sl 12 (l.map encN) .no) v ∧ l.length ≤ 9223372036854775807 := by
 obtain ⟨l, h1, h2, _⟩ := slice_rel (w := W) (enc := enc) (base := base) (held := held) (spare := spare) encN (fun _ => True) lkSNote.und_slice cnNote (by decide) (fun n cs y h => by
  obtain ⟨e, rfl⟩ := rdNote h
  exact ⟨e, rfl, relNote e, trivial⟩) hspot h
 exact ⟨l, h1, h2⟩
theorem lkScore : LOk Tryz.prog 26 ⟨.struct [(3, 0, 1), (22, 1, 1), (23, 2, 1), (24, 3, 1)], 4, 80, [.i .i64, .slice, .slice, .slice]⟩ := .of (tabOk.get rfl)
theorem cnScore : Tryz.prog.cellsOf 26 = 4 := by kernel_rfl
theorem ctScore : Tryz.prog.cellTypes Tryz.prog.depth 26 = some [3, 22, 23, 24] := by kernel_rfl
theorem argScore {r : Reach} {v : Value} {d : DataW H} {p : List MemPlace} (hval : Value.okWide Tryz.prog W r b0 26 v) (h : DataW.Trod enc Tryz.prog W base spare held 26 v d p) : ∃ s : Score, VRel (memOf W) [] (.agg (encS s)) v ∧ s.Sized := by
 obtain ⟨cs, rfl, hsz, hspot⟩ := struct_ok lkScore ctScore hval
 obtain ⟨fuel, hf⟩ := h
 obtain ⟨l, rfl⟩ : ∃ l, cs = List.toArray l := ⟨cs.toList, by simp⟩
 simp only [Value.cells] at hf
 obtain ⟨hlen, n, hff⟩ := struct_rd lkScore hf
 rw [cnScore] at hlen
 match l, hlen with
 | [u0, u1, u2, u3], _ =>
   obtain ⟨y0, h0⟩ := hff 0 3 0 1 rfl
   obtain ⟨y1, h1⟩ := hff 1 22 1 1 rfl
   obtain ⟨y2, h2⟩ := hff 2 23 2 1 rfl
   obtain ⟨y3, h3⟩ := hff 3 24 3 1 rfl
   rw [cn3] at h0
   rw [cnSBar] at h1
   rw [cnSPart] at h2
   rw [cnSNote] at h3
   obtain ⟨n0, e0, _⟩ := int_rd lk3 h0
   have g0 : u0 = vI n0 := by simpa using e0
   subst g0
   obtain ⟨a, r1, b1⟩ := rdSBar (v := u1) (fun ad len cap e => hspot 1 _ _ ad len cap (by decide) rfl lkSBar.und_slice (by subst e; rfl)) (by simpa using h1)
   obtain ⟨b, r2, b2⟩ := rdSPart (v := u2) (fun ad len cap e => hspot 2 _ _ ad len cap (by decide) rfl lkSPart.und_slice (by subst e; rfl)) (by simpa using h2)
   obtain ⟨c, r3, b3⟩ := rdSNote (v := u3) (fun ad len cap e => hspot 3 _ _ ad len cap (by decide) rfl lkSNote.und_slice (by subst e; rfl)) (by simpa using h3)
   refine ⟨⟨n0, a, b, c⟩, .agg _ _ rfl fun i c hi => ?_, b1, b2, b3⟩
   match i, hi with
   | 0, hi => simp [encS] at hi; subst hi; exact .prim _
   | 1, hi => simp [encS] at hi; subst hi; exact r1
   | 2, hi => simp [encS] at hi; subst hi; exact r2
   | 3, hi => simp [encS] at hi; subst hi; exact r3
   | i + 4, hi => simp [encS] at hi
end
theorem own : ownKnob Tryz.prog.godebug = none := by kernel_rfl
theorem laidOut : laidOutB Tryz.prog = true := by kernel_rfl
abbrev laid1 : List (String × DataW Unit) := [("partbook/pitch.naturals", Rows.laid_partbook_pitch_naturals)]
theorem door_met (os : Os) (args : Array Value) : laidMetH Tryz.prog laid1 ((World.doorLaid Tryz.prog 4000 os).forCall (fun _ _ => 0) ⟨#[], args, []⟩).memory :=
 laidMetH_of_parts3 (fuel := 8) (laidMet_of_run' 8 (by kernel_rfl) (by kernel_rfl)) (by kernel_rfl) (by kernel_rfl)
theorem gNat : Tryz.prog.globalNamed "partbook/pitch.naturals" = some 0 := by kernel_rfl
theorem tNat : (Tryz.prog.globals[0]?).map (·.type) = some 212 := by kernel_rfl
theorem uNat : Tryz.prog.underlying 212 = some (.array 7 3) := by kernel_rfl
theorem gam_laid {W : World} (h : laidMetH Tryz.prog laid1 W) : GamOk (memOf W) := by
 rw [MakeChecks.laidMetH_plain _ _ _ (by kernel_rfl)] at h
 obtain ⟨ps, ⟨g0, t0, cs0, f0, p0, q0, hg0, ht0, hv0, hd0, _⟩, _, _⟩ := h
 obtain rfl := Option.some.inj (gNat.symm.trans hg0)
 obtain rfl := Option.some.inj (tNat.symm.trans ht0)
 obtain ⟨xs, m1, hx0, hx1, hlen, hn3, hel⟩ := DataW.trod_array uNat hd0
 have hm : xs.map (·.1) = [.lit (.int .i64 0), .lit (.int .i64 2), .lit (.int .i64 4), .lit (.int .i64 5), .lit (.int .i64 7), .lit (.int .i64 9), .lit (.int .i64 11)] := by
  have := congrArg Prod.fst hx1
  simp only [Rows.laid_partbook_pitch_naturals, DataW.agg.injEq] at this
  exact this.symm
 have key : ∀ j, j < 7 → ∃ k, cs0[j]? = some (.int .i64 k) ∧ (xs.map (·.1))[j]? = some (.lit (.int .i64 k)) := fun j hj => by
  have h0 := hel j hj
  rw [cn3, Nat.mul_one, zA7 (by omega)] at h0
  obtain ⟨k, e1, e2, _⟩ := DataW.trod_int lk3.und_int h0
  refine ⟨k, ?_, ?_⟩
  · have := congrArg (fun l => l[0]?) e1
    simpa using this
  · rw [zAa, zA7 (by omega), e2]; rfl
 intro p hp j v hv
 simp only [Gam, zAl] at hp
 subst hp
 dsimp only at hv ⊢
 have hj : j < 7 := by
  rcases nLg j 7 with h | h
  · exact h
  · rw [zA2 (by simpa using h)] at hv; cases hv
 obtain ⟨k, h1, h2⟩ := key j hj
 rw [hm] at h2
 have hk : v = .int .i64 k := by
  match j, hj, hv, h2 with
  | 0, _, hv, h2 | 1, _, hv, h2 | 2, _, hv, h2 | 3, _, hv, h2 | 4, _, hv, h2 | 5, _, hv, h2 | 6, _, hv, h2 => simp at hv h2; rw [← hv, ← h2]
 rw [hk]
 show W.cell? ⟨0, j, none⟩ = _
 rw [World.var?_cell hg0 hv0 j]; exact h1
end Go.Proofs.YtficfljjnbnhbaaGreatDoor
set_option maxRecDepth 20000
namespace Go.Proofs.YtficfljjnbnhbaaGreatDoor.Mk
open Go.Ab Go.Jo Go.ChangeShapes Go.WideShapes
section
variable {H : Type} {enc : TypeId × Value → H} {W : World} {base b0 fuel : Nat} {held : Bool} {spare : Nat → Bool}
theorem cnT : Tryz.prog.cellsOf 9 = 1 := by kernel_rfl
theorem cnR : Tryz.prog.cellsOf 56 = 3 := by kernel_rfl
theorem cnM : Tryz.prog.cellsOf 66 = 10 := by kernel_rfl
theorem lkT : LOk Tryz.prog 9 ⟨.str, 1, 16, [.str]⟩ := .of (tabOk.get rfl)
theorem lkR : LOk Tryz.prog 56 ⟨.struct [(3, 0, 1), (3, 1, 1), (3, 2, 1)], 3, 24, [.i .i64, .i .i64, .i .i64]⟩ := .of (tabOk.get rfl)
theorem lkM : LOk Tryz.prog 66 ⟨.struct [(3, 0, 1), (3, 1, 1), (3, 2, 1), (56, 3, 3), (3, 6, 1), (3, 7, 1), (3, 8, 1), (9, 9, 1)], 10, 88, [.i .i64, .i .i64, .i .i64, .i .i64, .i .i64, .i .i64, .i .i64, .i .i64, .i .i64, .str]⟩ := .of (tabOk.get rfl)
theorem lkSM : LOk Tryz.prog 27 ⟨.slice 66, 1, 24, [.slice]⟩ := .of (tabOk.get rfl)
def vR (r : Rdr) : List Value := [vI r.part, vI r.desk, vI r.seat]
def vM (m : Jo.Mark) : List Value := [vI m.id, vI m.kind, vI m.layer, vI m.who.part, vI m.who.desk, vI m.who.seat, vI m.version, vI m.note, vI m.value, .string ⟨m.text.toArray⟩]
theorem rdR {cs : List Value} {x : DataW H × List MemPlace} (h : DataW.trod enc Tryz.prog W base spare held fuel 56 cs = some x) : ∃ r : Rdr, cs = vR r := by
 obtain ⟨hlen, n, hf⟩ := struct_rd lkR h
 rw [cnR] at hlen
 match cs, hlen with
 | [u0, u1, u2], _ =>
   obtain ⟨y0, h0⟩ := hf 0 3 0 1 rfl
   obtain ⟨y1, h1⟩ := hf 1 3 1 1 rfl
   obtain ⟨y2, h2⟩ := hf 2 3 2 1 rfl
   rw [cn3] at h0 h1 h2
   obtain ⟨n0, e0, _⟩ := int_rd lk3 h0
   obtain ⟨n1, e1, _⟩ := int_rd lk3 h1
   obtain ⟨n2, e2, _⟩ := int_rd lk3 h2
   simp at e0 e1 e2
   subst e0 e1 e2
   exact ⟨⟨n0, n1, n2⟩, rfl⟩
theorem bytes_eta (s : ByteArray) : s = ⟨s.data.toList.toArray⟩ := by cases s; simp
theorem rdM {cs : List Value} {x : DataW H × List MemPlace} (h : DataW.trod enc Tryz.prog W base spare held fuel 66 cs = some x) : ∃ m : Jo.Mark, cs = vM m ∧ m.text.length ≤ 9223372036854775807 := by
 obtain ⟨hlen, n, hf⟩ := struct_rd lkM h
 rw [cnM] at hlen
 match cs, hlen with
 | [u0, u1, u2, u3, u4, u5, u6, u7, u8, u9], _ =>
   obtain ⟨y0, h0⟩ := hf 0 3 0 1 rfl
   obtain ⟨y1, h1⟩ := hf 1 3 1 1 rfl
   obtain ⟨y2, h2⟩ := hf 2 3 2 1 rfl
   obtain ⟨y3, h3⟩ := hf 3 56 3 3 rfl
   obtain ⟨y4, h4⟩ := hf 4 3 6 1 rfl
   obtain ⟨y5, h5⟩ := hf 5 3 7 1 rfl
   obtain ⟨y6, h6⟩ := hf 6 3 8 1 rfl
   obtain ⟨y7, h7⟩ := hf 7 9 9 1 rfl
   rw [cn3] at h0 h1 h2 h4 h5 h6
   rw [cnR] at h3
   rw [cnT] at h7
   obtain ⟨n0, e0, _⟩ := int_rd lk3 h0
   obtain ⟨n1, e1, _⟩ := int_rd lk3 h1
   obtain ⟨n2, e2, _⟩ := int_rd lk3 h2
   obtain ⟨r, e3⟩ := rdR h3
   obtain ⟨n4, e4, _⟩ := int_rd lk3 h4
   obtain ⟨n5, e5, _⟩ := int_rd lk3 h5
   obtain ⟨n6, e6, _⟩ := int_rd lk3 h6
   obtain ⟨s, e7, hs⟩ := str_rd lkT h7
   simp [vR] at e0 e1 e2 e3 e4 e5 e6 e7
   obtain ⟨e31, e32, e33⟩ := e3
   subst e0 e1 e2 e31 e32 e33 e4 e5 e6 e7
   refine ⟨⟨n0, n1, n2, r, n4, n5, n6, s.data.toList⟩, by unfold vM; rw [← bytes_eta], ?_⟩
   have h9 : s.data.toList.length = s.size := by rw [zBp]; rfl
   show s.data.toList.length ≤ _
   rw [h9]; exact hs
theorem relM (m : Jo.Mark) : ∀ (j : Nat) c, (encMk m)[j]? = some c → VRel (memOf W) [] c ((vM m).getD j undef) := fun j c hj => by
 match j, hj with
 | 0, hj | 1, hj | 2, hj | 3, hj | 4, hj | 5, hj | 6, hj | 7, hj | 8, hj | 9, hj => simp only [encMk, zBs, zCp, Option.some.injEq] at hj; subst hj; exact .prim _
 | j + 10, hj => simp [encMk] at hj
theorem argMarks {r : Reach} {v : Value} {d : DataW H} {p : List MemPlace} (hval : Value.okWide Tryz.prog W r b0 27 v) (h : DataW.Trod enc Tryz.prog W base spare held 27 v d p) : ∃ l : List Jo.Mark, VRel (memOf W) [] (.sl 10 (l.map encMk) .no) v ∧ l.length ≤ 9223372036854775807 ∧ TextsIn l := by
 obtain ⟨fuel, hf⟩ := h
 rw [slice_val1 lkSM.und_slice hval] at hf
 obtain ⟨l, h1, h2, h3⟩ := slice_rel (w := W) (enc := enc) (base := base) (held := held) (spare := spare) encMk (fun m => m.text.length ≤ 9223372036854775807) lkSM.und_slice cnM (by decide) (fun n cs y h => by
  obtain ⟨e, rfl, hb⟩ := rdM h
  exact ⟨e, rfl, relM e, hb⟩) (slice_ok1 lkSM.und_slice hval) hf
 exact ⟨l, h1, h2, h3⟩
end
end Go.Proofs.YtficfljjnbnhbaaGreatDoor.Mk
set_option maxRecDepth 20000
namespace Go.Ab
open Go.ChangeShapes Go.WideShapes
section
variable {H : Type} {enc : TypeId × Value → H} {P : Program} {w : World} {base : Nat} {held : Bool} {spare : Nat → Bool}
theorem slice_relB {α : Type} [Inhabited α] (f : α → List AV) (good : α → Prop) {t e : TypeId} {sz fuel : Nat} {v : Value} {x : DataW H × List MemPlace} (ht : P.underlying t = some (.slice e)) (hsz : P.cellsOf e = sz) (hpos : 0 < sz)
 (elem : ∀ (n : Nat) (cs : List Value) (y : DataW H × List MemPlace), DataW.trod enc P w base spare held n e cs = some y → ∃ a : α, (f a).length = sz ∧ (∀ (j : Nat) c, (f a)[j]? = some c → VRel (memOf w) [] c (cs.getD j undef)) ∧ good a)
 (h : DataW.trod enc P w base spare held fuel t [v] = some x) : ∃ al : List α, VRel (memOf w) [] (.sl sz (al.map f) .no) v ∧ al.length ≤ maxLen ∧ ∀ a ∈ al, good a := by
 have h0 := h
 rcases Deep.open_slice ht h with ⟨hc, _⟩ | ⟨a, len, cap, m, n, D, Pl, hc, _, hl, hm, hmm, _, hx⟩
 · simp at hc; subst hc
   exact ⟨[], .slz sz .no trivial, by simp, fun a ha => by simp at ha⟩
 · simp only [List.cons.injEq, and_true] at hc; subst hc
   cases len with
   | zero => exact ⟨[], .slzz sz (some a) cap, by simp, fun a ha => by simp at ha⟩
   | succ len =>
     refine slice_rel f good ht hsz hpos elem (fun a' len' cap' e => ?_) h0
     cases e
     have hle : 0 < m := by rw [hmm]; split <;> omega
     obtain ⟨cs', h1, _⟩ := hx 0 hle
     rw [hsz] at h1
     obtain ⟨_, _, h5⟩ := World.cells?_some h1
     have h6 := h5 0 hpos
     obtain ⟨b, off, sp⟩ := a
     have e0 : (⟨b, off, sp⟩ : Addr).add (0 * sz) = ⟨b, off, sp⟩ := by rw [Nat.zero_mul]; rfl
     have e1 : (⟨b, off, sp⟩ : Addr).add 0 = ⟨b, off, sp⟩ := rfl
     rw [e0, e1] at h6
     cases h7 : cs'[0]? with
     | none =>
       have h8 := List.getElem?_eq_none_iff.1 h7
       omega
     | some v =>
       rw [h7] at h6
       exact World.cell?_spot h6
end
end Go.Ab
namespace Go.Proofs.YtficfljjnbnhbaaGreatDoor.Bw
open Go.Ab Go.ChangeShapes Go.WideShapes Mk
section
variable {H : Type} {enc : TypeId × Value → H} {W : World} {base b0 fuel : Nat} {held : Bool} {spare : Nat → Bool}
theorem lkSI : LOk Tryz.prog 28 ⟨.slice 3, 1, 24, [.slice]⟩ := .of (tabOk.get rfl)
theorem cnSI : Tryz.prog.cellsOf 28 = 1 := by kernel_rfl
theorem lkSRd : LOk Tryz.prog 29 ⟨.slice 56, 1, 24, [.slice]⟩ := .of (tabOk.get rfl)
theorem cnSRd : Tryz.prog.cellsOf 29 = 1 := by kernel_rfl
theorem lkCl : LOk Tryz.prog 31 ⟨.struct [(28, 0, 1), (28, 1, 1), (29, 2, 1)], 3, 72, [.slice, .slice, .slice]⟩ := .of (tabOk.get rfl)
theorem cnCl : Tryz.prog.cellsOf 31 = 3 := by kernel_rfl
theorem ctCl : Tryz.prog.cellTypes Tryz.prog.depth 31 = some [28, 28, 29] := by kernel_rfl
theorem rdIn {n : Nat} {cs : List Value} {y : DataW H × List MemPlace} (h : DataW.trod enc Tryz.prog W base spare held n 3 cs = some y) : ∃ k : Int, (eI k).length = 1 ∧ (∀ (j : Nat) c, (eI k)[j]? = some c → VRel (memOf W) [] c (cs.getD j undef)) ∧ True := by
 obtain ⟨k, e, _⟩ := int_rd lk3 h
 subst e
 refine ⟨k, rfl, fun j c hj => ?_, trivial⟩
 match j, hj with
 | 0, hj => simp [eI] at hj; subst hj; exact .prim _
 | j + 1, hj => simp [eI] at hj
theorem rdRr {n : Nat} {cs : List Value} {y : DataW H × List MemPlace} (h : DataW.trod enc Tryz.prog W base spare held n 56 cs = some y) : ∃ r : Jo.Rdr, (encRd r).length = 3 ∧ (∀ (j : Nat) c, (encRd r)[j]? = some c → VRel (memOf W) [] c (cs.getD j undef)) ∧ True := by
 obtain ⟨r, rfl⟩ := rdR h
 refine ⟨r, rfl, fun j c hj => ?_, trivial⟩
 match j, hj with
 | 0, hj | 1, hj | 2, hj => simp only [encRd, zBs, zCp, Option.some.injEq] at hj; subst hj; exact .prim _
 | j + 3, hj => simp [encRd] at hj
theorem argInts {r : Reach} {v : Value} {d : DataW H} {p : List MemPlace} (hval : Value.okWide Tryz.prog W r b0 28 v) (h : DataW.Trod enc Tryz.prog W base spare held 28 v d p) : ∃ l : List Int, VRel (memOf W) [] (.sl 1 (l.map eI) .no) v ∧ l.length ≤ 9223372036854775807 := by
 obtain ⟨fuel, hf⟩ := h
 rw [slice_val1 lkSI.und_slice hval] at hf
 obtain ⟨l, h1, h2, _⟩ := slice_relB (w := W) (enc := enc) (base := base) (held := held) (spare := spare) eI (fun _ => True) lkSI.und_slice cn3 (by decide) (fun n cs y h => rdIn h) hf
 exact ⟨l, h1, h2⟩
theorem argClash {r : Reach} {v : Value} {d : DataW H} {p : List MemPlace} (hval : Value.okWide Tryz.prog W r b0 31 v) (h : DataW.Trod enc Tryz.prog W base spare held 31 v d p) : ∃ c : Cl, VRel (memOf W) [] (.agg (encC c)) v ∧ c.Sized := by
 obtain ⟨cs, rfl, hsz, _⟩ := struct_ok lkCl ctCl hval
 obtain ⟨fuel, hf⟩ := h
 rw [cnCl] at hsz
 obtain ⟨l, rfl⟩ : ∃ l, cs = List.toArray l := ⟨cs.toList, by simp⟩
 simp only [Value.cells] at hf
 obtain ⟨hlen, n, hf⟩ := struct_rd lkCl hf
 match l, hsz with
 | [u0, u1, u2], _ =>
   obtain ⟨y0, h0⟩ := hf 0 28 0 1 rfl
   obtain ⟨y1, h1⟩ := hf 1 28 1 1 rfl
   obtain ⟨y2, h2⟩ := hf 2 29 2 1 rfl
   rw [cnSI] at h0 h1
   rw [cnSRd] at h2
   obtain ⟨a, g1, g2, _⟩ := slice_relB (w := W) (enc := enc) (base := base) (held := held) (spare := spare) eI (fun _ => True) (v := u0) lkSI.und_slice cn3 (by decide) (fun n cs y h => rdIn h) h0
   obtain ⟨b, g3, g4, _⟩ := slice_relB (w := W) (enc := enc) (base := base) (held := held) (spare := spare) eI (fun _ => True) (v := u1) lkSI.und_slice cn3 (by decide) (fun n cs y h => rdIn h) h1
   obtain ⟨c, g5, g6, _⟩ := slice_relB (w := W) (enc := enc) (base := base) (held := held) (spare := spare) encRd (fun _ => True) (v := u2) lkSRd.und_slice cnR (by decide) (fun n cs y h => rdRr h) h2
   refine ⟨⟨a, b, c⟩, .agg _ _ rfl fun i c hi => ?_, ⟨g2, g4, g6⟩⟩
   match i, hi with
   | 0, hi => simp [encC] at hi; subst hi; exact g1
   | 1, hi => simp [encC] at hi; subst hi; exact g3
   | 2, hi => simp [encC] at hi; subst hi; exact g5
   | i + 3, hi => simp [encC] at hi
end
end Go.Proofs.YtficfljjnbnhbaaGreatDoor.Bw
