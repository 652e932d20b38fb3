/- What is handed in to the laws over tablets reads as a content.  Deeds that are handed in read as a content. No statement is proved here. -/
import Derived.SizedLaws
import Derived.Test.YtbneeinknlddaaaGreatQ3
import Derived.Test.YtbneeinknlddaaaGreatQ25
import Derived.Test.YtbneeinknlddaaaGreatQ27
set_option linter.unusedVariables false
set_option linter.unusedSimpArgs false
set_option maxRecDepth 20000
namespace Go.Ab
open Go.ChangeShapes Go.WideShapes
section
variable {H : Type} {enc : TypeId × Value → H} {P : Program} {w : World} {base : Nat} {held : Bool} {spare : Nat → Bool}
theorem slice_ok {r : Reach} {b0 : Nat} {t e : TypeId} {v : Value} (hu : P.underlying t = some (.slice e)) (hv : Value.okWide P w r b0 t v) : ∀ a len cap, v = .slice (some a) len cap → a.spot = none := fun a len cap he => by
 subst he
 unfold Value.okWide at hv
 rw [hu] at hv
 simp only at hv
 unfold Cell.okWide at hv
 simp only [hu] at hv
 unfold Cell.ok at hv
 simp only [hu] at hv
 exact hv.2.2.2.1
theorem slice_val {r : Reach} {b0 : Nat} {t e : TypeId} {v : Value} (hu : P.underlying t = some (.slice e)) (hv : Value.okWide P w r b0 t v) : v.cells.toList = [v] := by
 unfold Value.okWide at hv
 rw [hu] at hv
 simp only at hv
 unfold Cell.okWide at hv
 simp only [hu] at hv
 cases v with
 | slice a l c => simp [Value.cells]
 | _ => unfold Cell.ok at hv; simp [hu] at hv
end
end Go.Ab
namespace Go.Proofs.YtbneeinknlddaaaGreat
open Go.Ab Go.Jo Go.Sy Go.ChangeShapes Go.WideShapes
section
variable {H : Type} {enc : TypeId × Value → H} {W : World} {base b0 fuel : Nat} {held : Bool} {spare : Nat → Bool}
theorem cn3 : Tryz.prog.cellsOf 3 = 1 := by kernel_rfl
theorem cn5 : Tryz.prog.cellsOf 5 = 1 := by kernel_rfl
theorem cn9 : Tryz.prog.cellsOf 9 = 1 := by kernel_rfl
theorem cnH : Tryz.prog.cellsOf 34 = 1 := by kernel_rfl
theorem cnR : Tryz.prog.cellsOf 23 = 3 := by kernel_rfl
theorem cnM : Tryz.prog.cellsOf 31 = 10 := by kernel_rfl
theorem cnD : Tryz.prog.cellsOf 55 = 14 := by kernel_rfl
theorem lk3 : LOk Tryz.prog 3 ⟨.int .i64, 1, 8, [.i .i64]⟩ := .of (tabOk.get rfl)
theorem lk4 : LOk Tryz.prog 4 ⟨.bool, 1, 1, [.bool]⟩ := .of (tabOk.get rfl)
theorem lk5 : LOk Tryz.prog 5 ⟨.int .u8, 1, 1, [.i .u8]⟩ := .of (tabOk.get rfl)
theorem lk9 : LOk Tryz.prog 9 ⟨.str, 1, 16, [.str]⟩ := .of (tabOk.get rfl)
theorem lkH : LOk Tryz.prog 34 ⟨.int .u16, 1, 2, [.i .u16]⟩ := .of (tabOk.get rfl)
theorem lkR : LOk Tryz.prog 23 ⟨.struct [(3, 0, 1), (3, 1, 1), (3, 2, 1)], 3, 24, [.i .i64, .i .i64, .i .i64]⟩ := .of (tabOk.get rfl)
theorem lkM : LOk Tryz.prog 31 ⟨.struct [(3, 0, 1), (3, 1, 1), (3, 2, 1), (23, 3, 3), (3, 6, 1), (3, 7, 1), (3, 8, 1), (9, 9, 1)], 10, 88, [.i .i64, .i .i64, .i .i64, .i .i64, .i .i64, .i .i64, .i .i64, .i .i64, .i .i64, .str]⟩ := .of (tabOk.get rfl)
theorem lkD : LOk Tryz.prog 55 ⟨.struct [(5, 0, 1), (5, 1, 1), (5, 2, 1), (34, 3, 1), (31, 4, 10)], 14, 96, [.i .u8, .i .u8, .i .u8, .i .u16, .i .i64, .i .i64, .i .i64, .i .i64, .i .i64, .i .i64, .i .i64, .i .i64, .i .i64, .str]⟩ := .of (tabOk.get rfl)
theorem lkLD : LOk Tryz.prog 50 ⟨.slice 55, 1, 24, [.slice]⟩ := .of (tabOk.get rfl)
def vI (n : Int) : Value := .int .i64 n
def vM (m : Jo.Mark) : List Value := [vI m.id, vI m.kind, vI m.layer, vI m.who.part, vI m.who.desk, vI m.who.seat, vI m.version, vI m.note, vI m.value, .string ⟨m.text.toArray⟩]
theorem rdr_rd {cs : List Value} {x : DataW H × List MemPlace} (h : DataW.trod enc Tryz.prog W base spare held fuel 23 cs = some x) : ∃ r : Rdr, cs = [vI r.part, vI r.desk, vI r.seat] := by
 obtain ⟨hlen, n, hf⟩ := struct_rd lkR h
 rw [cnR] at hlen
 match cs, hlen with
 | [u0, u1, u2], _ =>
   obtain ⟨y0, h0⟩ := hf 0 3 0 1 rfl
   obtain ⟨y1, h1⟩ := hf 1 3 1 1 rfl
   obtain ⟨y2, h2⟩ := hf 2 3 2 1 rfl
   rw [cn3] at h0 h1 h2
   obtain ⟨n0, e0, _⟩ := int_rd lk3 h0
   obtain ⟨n1, e1, _⟩ := int_rd lk3 h1
   obtain ⟨n2, e2, _⟩ := int_rd lk3 h2
   simp at e0 e1 e2
   subst e0 e1 e2
   exact ⟨⟨n0, n1, n2⟩, rfl⟩
theorem bytes_eta (s : ByteArray) : s = ⟨s.data.toList.toArray⟩ := by cases s; simp
theorem mark_rd {cs : List Value} {x : DataW H × List MemPlace} (h : DataW.trod enc Tryz.prog W base spare held fuel 31 cs = some x) : ∃ m : Jo.Mark, cs = vM m ∧ m.text.length ≤ 9223372036854775807 := by
 obtain ⟨hlen, n, hf⟩ := struct_rd lkM h
 rw [cnM] at hlen
 match cs, hlen with
 | [u0, u1, u2, u3, u4, u5, u6, u7, u8, u9], _ =>
   obtain ⟨y0, h0⟩ := hf 0 3 0 1 rfl
   obtain ⟨y1, h1⟩ := hf 1 3 1 1 rfl
   obtain ⟨y2, h2⟩ := hf 2 3 2 1 rfl
   obtain ⟨y3, h3⟩ := hf 3 23 3 3 rfl
   obtain ⟨y4, h4⟩ := hf 4 3 6 1 rfl
   obtain ⟨y5, h5⟩ := hf 5 3 7 1 rfl
   obtain ⟨y6, h6⟩ := hf 6 3 8 1 rfl
   obtain ⟨y7, h7⟩ := hf 7 9 9 1 rfl
   rw [cn3] at h0 h1 h2 h4 h5 h6
   rw [cnR] at h3
   rw [cn9] at h7
   obtain ⟨n0, e0, _⟩ := int_rd lk3 h0
   obtain ⟨n1, e1, _⟩ := int_rd lk3 h1
   obtain ⟨n2, e2, _⟩ := int_rd lk3 h2
   obtain ⟨r, e3⟩ := rdr_rd h3
   obtain ⟨n4, e4, _⟩ := int_rd lk3 h4
   obtain ⟨n5, e5, _⟩ := int_rd lk3 h5
   obtain ⟨n6, e6, _⟩ := int_rd lk3 h6
   obtain ⟨s, e7, hs⟩ := str_rd lk9 h7
   simp at e0 e1 e2 e3 e4 e5 e6 e7
   obtain ⟨e31, e32, e33⟩ := e3
   subst e0 e1 e2 e31 e32 e33 e4 e5 e6 e7
   refine ⟨⟨n0, n1, n2, r, n4, n5, n6, s.data.toList⟩, by unfold vM; rw [← bytes_eta]; rfl, ?_⟩
   have hm : maxLen ≤ 9223372036854775807 := by decide
   have : s.data.toList.length = s.size := zBo
   show s.data.toList.length ≤ _
   omega
end
theorem own : ownKnob Tryz.prog.godebug = none := by kernel_rfl
theorem laidOut : laidOutB Tryz.prog = true := by kernel_rfl
end Go.Proofs.YtbneeinknlddaaaGreat
set_option maxRecDepth 20000
namespace Go.Proofs.YtbneeinknlddaaaGreat
open Go.Ab Go.Jo Go.Sy Go.ChangeShapes Go.WideShapes
section
variable {H : Type} {enc : TypeId × Value → H} {W : World} {base b0 fuel : Nat} {held : Bool} {spare : Nat → Bool}
theorem u8_rd {cs : List Value} {x : DataW H × List MemPlace} (h : DataW.trod enc Tryz.prog W base spare held fuel 5 cs = some x) : ∃ n : Nat, cs = [.int .u8 (n : Int)] ∧ n ≤ 255 := by
 obtain ⟨k, e, hw⟩ := int_rd lk5 h
 have hk : 0 ≤ k ∧ k ≤ 255 := by
  simp only [Lit.wf, zA2, dEt] at hw
  exact hw
 exact ⟨k.toNat, by rw [Int.toNat_of_nonneg hk.1]; exact e, by omega⟩
theorem u16_rd {cs : List Value} {x : DataW H × List MemPlace} (h : DataW.trod enc Tryz.prog W base spare held fuel 34 cs = some x) : ∃ n : Nat, cs = [.int .u16 (n : Int)] ∧ n ≤ 65535 := by
 obtain ⟨k, e, hw⟩ := int_rd lkH h
 have hk : 0 ≤ k ∧ k ≤ 65535 := by
  simp only [Lit.wf, zA2, dEt] at hw
  exact hw
 exact ⟨k.toNat, by rw [Int.toNat_of_nonneg hk.1]; exact e, by omega⟩
def vD (d : Sy.Deed) : List Value := [.int .u8 (d.what : Int), .int .u8 (d.at_ : Int), .int .u8 (d.with_ : Int), .int .u16 (d.cut : Int)] ++ vM d.mark
theorem deed_rd {cs : List Value} {x : DataW H × List MemPlace} (h : DataW.trod enc Tryz.prog W base spare held fuel 55 cs = some x) : ∃ d : Sy.Deed, cs = vD d ∧ DeedIn d := by
 obtain ⟨hlen, n, hf⟩ := struct_rd lkD h
 rw [cnD] at hlen
 match cs, hlen with
 | [u0, u1, u2, u3, u4, u5, u6, u7, u8, u9, u10, u11, u12, u13], _ =>
   obtain ⟨y0, h0⟩ := hf 0 5 0 1 rfl
   obtain ⟨y1, h1⟩ := hf 1 5 1 1 rfl
   obtain ⟨y2, h2⟩ := hf 2 5 2 1 rfl
   obtain ⟨y3, h3⟩ := hf 3 34 3 1 rfl
   obtain ⟨y4, h4⟩ := hf 4 31 4 10 rfl
   rw [cn5] at h0 h1 h2
   rw [cnH] at h3
   rw [cnM] at h4
   obtain ⟨n0, e0, b0⟩ := u8_rd h0
   obtain ⟨n1, e1, b1⟩ := u8_rd h1
   obtain ⟨n2, e2, b2⟩ := u8_rd h2
   obtain ⟨n3, e3, b3⟩ := u16_rd h3
   obtain ⟨m, e4, hm⟩ := mark_rd h4
   simp at e0 e1 e2 e3
   subst e0 e1 e2 e3
   refine ⟨⟨n0, n1, n2, n3, m⟩, ?_, ⟨b0, b1, b2, b3, hm⟩⟩
   have : [u4, u5, u6, u7, u8, u9, u10, u11, u12, u13] = vM m := by simpa using e4
   unfold vD
   rw [← this]; rfl
theorem vD_rel (d : Sy.Deed) : ∀ (j : Nat) c, (encDeed d)[j]? = some c → VRel (memOf W) [] c ((vD d).getD j undef) := fun j c hj => by
 match j, hj with
 | 0, hj | 1, hj | 2, hj | 3, hj | 4, hj | 5, hj | 6, hj | 7, hj | 8, hj | 9, hj | 10, hj | 11, hj | 12, hj | 13, hj => simp only [encDeed, List.getElem?_cons_succ, List.getElem?_cons_zero, Option.some.injEq] at hj; subst hj; exact .prim _
 | j + 14, hj => simp [encDeed] at hj
theorem argDeeds {r : Reach} {v : Value} {d : DataW H} {p : List MemPlace} (hval : Value.okWide Tryz.prog W r b0 50 v) (h : DataW.Trod enc Tryz.prog W base spare held 50 v d p) : ∃ l : List Sy.Deed, VRel (memOf W) [] (.sl 14 (l.map encDeed) .no) v ∧ ∀ d ∈ l, DeedIn d := by
 obtain ⟨fuel, hf⟩ := h
 rw [slice_val lkLD.und_slice hval] at hf
 obtain ⟨l, h1, _, h3⟩ := slice_rel (w := W) (enc := enc) (base := base) (held := held) (spare := spare) encDeed DeedIn lkLD.und_slice cnD (by decide) (fun n cs y h => by
  obtain ⟨e, rfl, hb⟩ := deed_rd h
  exact ⟨e, rfl, vD_rel e, hb⟩) (slice_ok lkLD.und_slice hval) hf
 exact ⟨l, h1, h3⟩
end
theorem number_law {v : AV} (a : Int) (ha : 0 ≤ a ∧ a ≤ 255) (h : ∀ n : Nat, n ≤ 255 → PCall Tryz.prog 6 [.prim (.int .u8 (n : Int)), v] (.b true)) : PCall Tryz.prog 6 [.prim (.int .u8 a), v] (.b true) := by
 have h1 := h a.toNat (by omega)
 rwa [Int.toNat_of_nonneg ha.1] at h1
end Go.Proofs.YtbneeinknlddaaaGreat
