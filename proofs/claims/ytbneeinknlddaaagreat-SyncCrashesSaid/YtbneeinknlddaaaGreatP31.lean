/- What is handed in to the laws over tablets reads as a content. No statement is proved here. -/
import Derived.SizedLaws
import Derived.Test.YtbneeinknlddaaaGreatP3
import Derived.Test.YtbneeinknlddaaaGreatP28
set_option linter.unusedVariables false
set_option linter.unusedSimpArgs false
set_option maxRecDepth 20000
namespace Go.Ab
open Go.ChangeShapes Go.WideShapes
section
variable {H : Type} {enc : TypeId × Value → H} {P : Program} {w : World} {base : Nat} {held : Bool} {spare : Nat → Bool}
theorem slice_ok {r : Reach} {b0 : Nat} {t e : TypeId} {v : Value} (hu : P.underlying t = some (.slice e)) (hv : Value.okWide P w r b0 t v) : ∀ a len cap, v = .slice (some a) len cap → a.spot = none := fun a len cap he => by
 subst he
 unfold Value.okWide at hv
 rw [hu] at hv
 simp only at hv
 unfold Cell.okWide at hv
 simp only [hu] at hv
 unfold Cell.ok at hv
 simp only [hu] at hv
 exact hv.2.2.2.1
theorem slice_val {r : Reach} {b0 : Nat} {t e : TypeId} {v : Value} (hu : P.underlying t = some (.slice e)) (hv : Value.okWide P w r b0 t v) : v.cells.toList = [v] := by
 unfold Value.okWide at hv
 rw [hu] at hv
 simp only at hv
 unfold Cell.okWide at hv
 simp only [hu] at hv
 cases v with
 | slice a l c => simp [Value.cells]
 | _ => unfold Cell.ok at hv; simp [hu] at hv
end
end Go.Ab
namespace Go.Proofs.YtbneeinknlddaaaGreat
open Go.Ab Go.Jo Go.Sy Go.ChangeShapes Go.WideShapes
section
variable {H : Type} {enc : TypeId × Value → H} {W : World} {base b0 fuel : Nat} {held : Bool} {spare : Nat → Bool}
theorem cn3 : Tryz.prog.cellsOf 3 = 1 := by kernel_rfl
theorem cn4 : Tryz.prog.cellsOf 4 = 1 := by kernel_rfl
theorem cn5 : Tryz.prog.cellsOf 5 = 1 := by kernel_rfl
theorem cn9 : Tryz.prog.cellsOf 9 = 1 := by kernel_rfl
theorem cnH : Tryz.prog.cellsOf 34 = 1 := by kernel_rfl
theorem cnR : Tryz.prog.cellsOf 23 = 3 := by kernel_rfl
theorem cnM : Tryz.prog.cellsOf 31 = 10 := by kernel_rfl
theorem cnE : Tryz.prog.cellsOf 33 = 14 := by kernel_rfl
theorem cnS : Tryz.prog.cellsOf 26 = 7 := by kernel_rfl
theorem cnT : Tryz.prog.cellsOf 29 = 10 := by kernel_rfl
theorem cnLE : Tryz.prog.cellsOf 24 = 1 := by kernel_rfl
theorem cnB : Tryz.prog.cellsOf 27 = 1 := by kernel_rfl
theorem cnD : Tryz.prog.cellsOf 55 = 14 := by kernel_rfl
theorem ctE : Tryz.prog.cellTypes Tryz.prog.depth 33 = some [3, 3, 3, 3, 3, 3, 3, 3, 3, 3, 3, 3, 3, 9] := by kernel_rfl
theorem ctT : Tryz.prog.cellTypes Tryz.prog.depth 29 = some [3, 3, 3, 3, 3, 3, 24, 27, 3, 4] := by kernel_rfl
theorem lk3 : LOk Tryz.prog 3 ⟨.int .i64, 1, 8, [.i .i64]⟩ := .of (tabOk.get rfl)
theorem lk4 : LOk Tryz.prog 4 ⟨.bool, 1, 1, [.bool]⟩ := .of (tabOk.get rfl)
theorem lk5 : LOk Tryz.prog 5 ⟨.int .u8, 1, 1, [.i .u8]⟩ := .of (tabOk.get rfl)
theorem lk9 : LOk Tryz.prog 9 ⟨.str, 1, 16, [.str]⟩ := .of (tabOk.get rfl)
theorem lkH : LOk Tryz.prog 34 ⟨.int .u16, 1, 2, [.i .u16]⟩ := .of (tabOk.get rfl)
theorem lkR : LOk Tryz.prog 23 ⟨.struct [(3, 0, 1), (3, 1, 1), (3, 2, 1)], 3, 24, [.i .i64, .i .i64, .i .i64]⟩ := .of (tabOk.get rfl)
theorem lkM : LOk Tryz.prog 31 ⟨.struct [(3, 0, 1), (3, 1, 1), (3, 2, 1), (23, 3, 3), (3, 6, 1), (3, 7, 1), (3, 8, 1), (9, 9, 1)], 10, 88, [.i .i64, .i .i64, .i .i64, .i .i64, .i .i64, .i .i64, .i .i64, .i .i64, .i .i64, .str]⟩ := .of (tabOk.get rfl)
theorem lkE : LOk Tryz.prog 33 ⟨.struct [(3, 0, 1), (3, 1, 1), (3, 2, 1), (3, 3, 1), (31, 4, 10)], 14, 120, [.i .i64, .i .i64, .i .i64, .i .i64, .i .i64, .i .i64, .i .i64, .i .i64, .i .i64, .i .i64, .i .i64, .i .i64, .i .i64, .str]⟩ := .of (tabOk.get rfl)
theorem lkLE : LOk Tryz.prog 24 ⟨.slice 33, 1, 24, [.slice]⟩ := .of (tabOk.get rfl)
theorem lkB : LOk Tryz.prog 27 ⟨.slice 5, 1, 24, [.slice]⟩ := .of (tabOk.get rfl)
theorem lkS : LOk Tryz.prog 26 ⟨.struct [(3, 0, 1), (23, 1, 3), (3, 4, 1), (3, 5, 1), (24, 6, 1)], 7, 72, [.i .i64, .i .i64, .i .i64, .i .i64, .i .i64, .i .i64, .slice]⟩ := .of (tabOk.get rfl)
theorem lkT : LOk Tryz.prog 29 ⟨.struct [(26, 0, 7), (27, 7, 1), (3, 8, 1), (4, 9, 1)], 10, 112, [.i .i64, .i .i64, .i .i64, .i .i64, .i .i64, .i .i64, .slice, .slice, .i .i64, .bool]⟩ := .of (tabOk.get rfl)
theorem lkD : LOk Tryz.prog 55 ⟨.struct [(5, 0, 1), (5, 1, 1), (5, 2, 1), (34, 3, 1), (31, 4, 10)], 14, 96, [.i .u8, .i .u8, .i .u8, .i .u16, .i .i64, .i .i64, .i .i64, .i .i64, .i .i64, .i .i64, .i .i64, .i .i64, .i .i64, .str]⟩ := .of (tabOk.get rfl)
theorem lkLD : LOk Tryz.prog 50 ⟨.slice 55, 1, 24, [.slice]⟩ := .of (tabOk.get rfl)
def vI (n : Int) : Value := .int .i64 n
def vM (m : Jo.Mark) : List Value := [vI m.id, vI m.kind, vI m.layer, vI m.who.part, vI m.who.desk, vI m.who.seat, vI m.version, vI m.note, vI m.value, .string ⟨m.text.toArray⟩]
def vE (e : Ev) : List Value := [vI e.clock, vI e.stand, vI e.kind, vI e.n] ++ vM e.mark
theorem rdr_rd {cs : List Value} {x : DataW H × List MemPlace} (h : DataW.trod enc Tryz.prog W base spare held fuel 23 cs = some x) : ∃ r : Rdr, cs = [vI r.part, vI r.desk, vI r.seat] := by
 obtain ⟨hlen, n, hf⟩ := struct_rd lkR h
 rw [cnR] at hlen
 match cs, hlen with
 | [u0, u1, u2], _ =>
   obtain ⟨y0, h0⟩ := hf 0 3 0 1 rfl
   obtain ⟨y1, h1⟩ := hf 1 3 1 1 rfl
   obtain ⟨y2, h2⟩ := hf 2 3 2 1 rfl
   rw [cn3] at h0 h1 h2
   obtain ⟨n0, e0, _⟩ := int_rd lk3 h0
   obtain ⟨n1, e1, _⟩ := int_rd lk3 h1
   obtain ⟨n2, e2, _⟩ := int_rd lk3 h2
   simp at e0 e1 e2
   subst e0 e1 e2
   exact ⟨⟨n0, n1, n2⟩, rfl⟩
theorem bytes_eta (s : ByteArray) : s = ⟨s.data.toList.toArray⟩ := by cases s; simp
theorem mark_rd {cs : List Value} {x : DataW H × List MemPlace} (h : DataW.trod enc Tryz.prog W base spare held fuel 31 cs = some x) : ∃ m : Jo.Mark, cs = vM m ∧ m.text.length ≤ 9223372036854775807 := by
 obtain ⟨hlen, n, hf⟩ := struct_rd lkM h
 rw [cnM] at hlen
 match cs, hlen with
 | [u0, u1, u2, u3, u4, u5, u6, u7, u8, u9], _ =>
   obtain ⟨y0, h0⟩ := hf 0 3 0 1 rfl
   obtain ⟨y1, h1⟩ := hf 1 3 1 1 rfl
   obtain ⟨y2, h2⟩ := hf 2 3 2 1 rfl
   obtain ⟨y3, h3⟩ := hf 3 23 3 3 rfl
   obtain ⟨y4, h4⟩ := hf 4 3 6 1 rfl
   obtain ⟨y5, h5⟩ := hf 5 3 7 1 rfl
   obtain ⟨y6, h6⟩ := hf 6 3 8 1 rfl
   obtain ⟨y7, h7⟩ := hf 7 9 9 1 rfl
   rw [cn3] at h0 h1 h2 h4 h5 h6
   rw [cnR] at h3
   rw [cn9] at h7
   obtain ⟨n0, e0, _⟩ := int_rd lk3 h0
   obtain ⟨n1, e1, _⟩ := int_rd lk3 h1
   obtain ⟨n2, e2, _⟩ := int_rd lk3 h2
   obtain ⟨r, e3⟩ := rdr_rd h3
   obtain ⟨n4, e4, _⟩ := int_rd lk3 h4
   obtain ⟨n5, e5, _⟩ := int_rd lk3 h5
   obtain ⟨n6, e6, _⟩ := int_rd lk3 h6
   obtain ⟨s, e7, hs⟩ := str_rd lk9 h7
   simp at e0 e1 e2 e3 e4 e5 e6 e7
   obtain ⟨e31, e32, e33⟩ := e3
   subst e0 e1 e2 e31 e32 e33 e4 e5 e6 e7
   refine ⟨⟨n0, n1, n2, r, n4, n5, n6, s.data.toList⟩, by unfold vM; rw [← bytes_eta]; rfl, ?_⟩
   have hm : maxLen ≤ 9223372036854775807 := by decide
   have : s.data.toList.length = s.size := zBq
   show s.data.toList.length ≤ _
   omega
theorem event_rd {cs : List Value} {x : DataW H × List MemPlace} (h : DataW.trod enc Tryz.prog W base spare held fuel 33 cs = some x) : ∃ e : Ev, cs = vE e ∧ e.mark.text.length ≤ 9223372036854775807 := by
 obtain ⟨hlen, n, hf⟩ := struct_rd lkE h
 rw [cnE] at hlen
 match cs, hlen with
 | [u0, u1, u2, u3, u4, u5, u6, u7, u8, u9, u10, u11, u12, u13], _ =>
   obtain ⟨y0, h0⟩ := hf 0 3 0 1 rfl
   obtain ⟨y1, h1⟩ := hf 1 3 1 1 rfl
   obtain ⟨y2, h2⟩ := hf 2 3 2 1 rfl
   obtain ⟨y3, h3⟩ := hf 3 3 3 1 rfl
   obtain ⟨y4, h4⟩ := hf 4 31 4 10 rfl
   rw [cn3] at h0 h1 h2 h3
   rw [cnM] at h4
   obtain ⟨n0, e0, _⟩ := int_rd lk3 h0
   obtain ⟨n1, e1, _⟩ := int_rd lk3 h1
   obtain ⟨n2, e2, _⟩ := int_rd lk3 h2
   obtain ⟨n3, e3, _⟩ := int_rd lk3 h3
   obtain ⟨m, e4, hm⟩ := mark_rd h4
   simp at e0 e1 e2 e3
   subst e0 e1 e2 e3
   refine ⟨⟨n0, n1, n2, n3, m⟩, ?_, hm⟩
   have : [u4, u5, u6, u7, u8, u9, u10, u11, u12, u13] = vM m := by simpa using e4
   unfold vE
   rw [← this]; rfl
theorem vE_rel (e : Ev) : ∀ (j : Nat) c, (encE e)[j]? = some c → VRel (memOf W) [] c ((vE e).getD j undef) := fun j c hj => by
 match j, hj with
 | 0, hj | 1, hj | 2, hj | 3, hj | 4, hj | 5, hj | 6, hj | 7, hj | 8, hj | 9, hj | 10, hj | 11, hj | 12, hj | 13, hj => simp only [encE, List.getElem?_cons_succ, List.getElem?_cons_zero, Option.some.injEq] at hj; subst hj; exact .prim _
 | j + 14, hj => simp [encE] at hj
theorem event_arg {r : Reach} {v : Value} {d : DataW H} {p : List MemPlace} (hval : Value.okWide Tryz.prog W r b0 33 v) (h : DataW.Trod enc Tryz.prog W base spare held 33 v d p) : ∃ e : Ev, VRel (memOf W) [] (.agg (encE e)) v ∧ e.mark.text.length ≤ 9223372036854775807 := by
 obtain ⟨cs, rfl, hsz, _⟩ := struct_ok lkE ctE hval
 obtain ⟨fuel, hf⟩ := h
 obtain ⟨l, rfl⟩ : ∃ l, cs = List.toArray l := ⟨cs.toList, by simp⟩
 simp only [Value.cells] at hf
 obtain ⟨e, he, hb⟩ := event_rd hf
 subst he
 refine ⟨e, .agg _ _ rfl fun i c hi => ?_, hb⟩
 have := vE_rel (W := W) e i c hi
 simpa using this
theorem rdLE {v : Value} {x : DataW H × List MemPlace} (hs : ∀ a len cap, v = .slice (some a) len cap → a.spot = none) (h : DataW.trod enc Tryz.prog W base spare held fuel 24 [v] = some x) : ∃ l : List Ev, VRel (memOf W) [] (.sl 14 (l.map encE) .no) v ∧ Txt l := by
 obtain ⟨l, h1, _, h3⟩ := slice_rel (w := W) (enc := enc) (base := base) (held := held) (spare := spare) encE (fun e => e.mark.text.length ≤ 9223372036854775807) lkLE.und_slice cnE (by decide) (fun n cs y h => by
  obtain ⟨e, rfl, hb⟩ := event_rd h
  exact ⟨e, rfl, vE_rel e, hb⟩) hs h
 exact ⟨l, h1, h3⟩
theorem rdBy {v : Value} {x : DataW H × List MemPlace} (hs : ∀ a len cap, v = .slice (some a) len cap → a.spot = none) (h : DataW.trod enc Tryz.prog W base spare held fuel 27 [v] = some x) : ∃ b : Bs, VRel (memOf W) [] (.sl 1 (b.map by8) .no) v := by
 obtain ⟨b, h1, _, _⟩ := slice_rel (w := W) (enc := enc) (base := base) (held := held) (spare := spare) by8 (fun _ => True) lkB.und_slice cn5 (by decide) (fun n cs y h => by
  obtain ⟨k, e, hw⟩ := int_rd lk5 h
  subst e
  have hk : 0 ≤ k ∧ k ≤ 255 := by
   simp only [Lit.wf, zA0, dEt] at hw
   exact hw
  refine ⟨UInt8.ofNat k.toNat, rfl, fun j c hj => ?_, trivial⟩
  match j, hj with
  | 0, hj =>
    simp only [List.getElem?_cons_zero, Option.some.injEq] at hj; subst hj
    have : ((UInt8.ofNat k.toNat).toNat : Int) = k := by rw [UInt8.toNat_ofNat']; omega
    show VRel _ _ (.prim (.int .u8 ((UInt8.ofNat k.toNat).toNat : Int))) (.int .u8 k)
    rw [this]; exact .prim _
  | j + 1, hj => simp at hj) hs h
 exact ⟨b, h1⟩
theorem argTab {r : Reach} {v : Value} {d : DataW H} {p : List MemPlace} (hval : Value.okWide Tryz.prog W r b0 29 v) (h : DataW.Trod enc Tryz.prog W base spare held 29 v d p) : ∃ t : Sy.Tab, VRel (memOf W) [] (.agg (encTab t)) v ∧ Txt t.s.evs := by
 obtain ⟨cs, rfl, hsz, hspot⟩ := struct_ok lkT ctT hval
 obtain ⟨fuel, hf⟩ := h
 obtain ⟨l, rfl⟩ : ∃ l, cs = List.toArray l := ⟨cs.toList, by simp⟩
 simp only [Value.cells] at hf
 obtain ⟨hlen, n, hff⟩ := struct_rd lkT hf
 rw [cnT] at hlen
 match l, hlen with
 | [u0, u1, u2, u3, u4, u5, u6, u7, u8, u9], _ =>
   obtain ⟨y0, h0⟩ := hff 0 26 0 7 rfl
   obtain ⟨y1, h1⟩ := hff 1 27 7 1 rfl
   obtain ⟨y2, h2⟩ := hff 2 3 8 1 rfl
   obtain ⟨y3, h3⟩ := hff 3 4 9 1 rfl
   rw [cnS] at h0
   rw [cnB] at h1
   rw [cn3] at h2
   rw [cn4] at h3
   obtain ⟨_, m, hgg⟩ := struct_rd lkS h0
   obtain ⟨z0, k0⟩ := hgg 0 3 0 1 rfl
   obtain ⟨z1, k1⟩ := hgg 1 23 1 3 rfl
   obtain ⟨z2, k2⟩ := hgg 2 3 4 1 rfl
   obtain ⟨z3, k3⟩ := hgg 3 3 5 1 rfl
   obtain ⟨z4, k4⟩ := hgg 4 24 6 1 rfl
   rw [cn3] at k0 k2 k3
   rw [cnR] at k1
   rw [cnLE] at k4
   obtain ⟨n0, e0, _⟩ := int_rd lk3 k0
   obtain ⟨rd, e1⟩ := rdr_rd k1
   obtain ⟨n2, e2, _⟩ := int_rd lk3 k2
   obtain ⟨n3, e3, _⟩ := int_rd lk3 k3
   obtain ⟨n8, e8, _⟩ := int_rd lk3 h2
   obtain ⟨bb, e9, _⟩ := DataW.trod_bool lk4.und_bool h3
   simp at e0 e1 e2 e3 e8 e9
   obtain ⟨e11, e12, e13⟩ := e1
   obtain ⟨a, r1, b1⟩ := rdLE (v := u6) (fun ad len cap e => hspot 6 _ _ ad len cap (by decide) rfl lkLE.und_slice (by subst e; rfl)) (by simpa using k4)
   obtain ⟨b, r2⟩ := rdBy (v := u7) (fun ad len cap e => hspot 7 _ _ ad len cap (by decide) rfl lkB.und_slice (by subst e; rfl)) (by simpa using h1)
   subst e0 e11 e12 e13 e2 e3 e8 e9
   refine ⟨⟨⟨n0, rd, n2, n3, a⟩, b, n8, bb⟩, .agg _ _ rfl fun i c hi => ?_, b1⟩
   match i, hi with
   | 0, hi | 1, hi | 2, hi | 3, hi | 4, hi | 5, hi | 8, hi | 9, hi => simp [encTab] at hi; subst hi; exact .prim _
   | 6, hi => simp [encTab] at hi; subst hi; exact r1
   | 7, hi => simp [encTab] at hi; subst hi; exact r2
   | i + 10, hi => simp [encTab] at hi
end
theorem own : ownKnob Tryz.prog.godebug = none := by kernel_rfl
theorem laidOut : laidOutB Tryz.prog = true := by kernel_rfl
end Go.Proofs.YtbneeinknlddaaaGreat
