/- What is handed in to the journal's laws reads as a content. No statement is proved here. -/
import Derived.Test.YtpkolkfglgalpaaJA
import Derived.Test.YtpkolkfglgalpaaJD
import Derived.Test.YtpkolkfglgalpaaM3
import Derived.SizedLaws
set_option linter.unusedVariables false
set_option linter.unusedSimpArgs false
set_option maxRecDepth 20000
namespace Go.Ab
open Go.ChangeShapes Go.WideShapes
section
variable {H : Type} {enc : TypeId × Value → H} {P : Program} {w : World} {base : Nat} {held : Bool} {spare : Nat → Bool}
theorem slice_ok {r : Reach} {b0 : Nat} {t e : TypeId} {v : Value} (hu : P.underlying t = some (.slice e)) (hv : Value.okWide P w r b0 t v) : ∀ a len cap, v = .slice (some a) len cap → a.spot = none := fun a len cap he => by
  subst he
  unfold Value.okWide at hv
  rw [hu] at hv
  simp only at hv
  unfold Cell.okWide at hv
  simp only [hu] at hv
  unfold Cell.ok at hv
  simp only [hu] at hv
  exact hv.2.2.2.1
theorem slice_val {r : Reach} {b0 : Nat} {t e : TypeId} {v : Value} (hu : P.underlying t = some (.slice e)) (hv : Value.okWide P w r b0 t v) : v.cells.toList = [v] := by
  unfold Value.okWide at hv
  rw [hu] at hv
  simp only at hv
  unfold Cell.okWide at hv
  simp only [hu] at hv
  cases v with
  | slice a l c => simp [Value.cells]
  | _ => unfold Cell.ok at hv; simp [hu] at hv
theorem slice_sized {t e : TypeId} {sz b : Nat} {v : Value} {d : DataW H} {p : List MemPlace} {es : List (List AV)} {ts : List TypeId} {ds : List (DataW H)} (hu : P.underlying t = some (.slice e)) (hb : P.bytesOf e = b) (h : DataW.Trod enc P w base spare held t v d p)
    (hr : VRel (memOf w) [] (.sl sz es .no) v) (hs : (DataW.weightsEach P ts ds).all (· ≤ reachBytes) = true) {j : Nat} (ht : ts[j]? = some t) (hd : ds[j]? = some d) : es.length * b ≤ reachBytes := by
  obtain ⟨fuel, hf⟩ := h
  rcases Deep.open_slice hu hf with ⟨h1, h2⟩ | ⟨a, len, cap, m, n, D, Pl, h1, _, _, _, _, h2, _⟩
  · cases hr with
    | sl _ _ _ b off cap f => simp [Value.cells] at h1
    | slz => simp
    | slzz => simp
  · have hd' : d = .slice ((List.range len).map D) ((List.range (m - len)).map fun j => D (len + j)) := congrArg Prod.fst h2
    subst hd'
    have := sized_slice hs ht hd hu
    rw [hb] at this
    have hl : es.length = len := by
      cases hr with
      | sl _ _ _ b off cap f => simp [Value.cells] at h1; omega
      | slz => simp [Value.cells] at h1
      | slzz => simp [Value.cells] at h1; simp; omega
    rw [hl]
    refine Nat.le_trans (Nat.mul_le_mul_right b ?_) this
    simp
end
end Go.Ab
namespace Go.Proofs.Ytpkolkfglgalpaa
open Go.Ab Go.Jo Go.ChangeShapes Go.WideShapes
section
variable {H : Type} {enc : TypeId × Value → H} {W : World} {base b0 fuel : Nat} {held : Bool} {spare : Nat → Bool}

theorem cn3 : Try.prog.cellsOf 3 = 1 := by kernel_rfl
theorem cn5 : Try.prog.cellsOf 5 = 1 := by kernel_rfl
theorem cn9 : Try.prog.cellsOf 9 = 1 := by kernel_rfl
theorem cnR : Try.prog.cellsOf 23 = 3 := by kernel_rfl
theorem cnM : Try.prog.cellsOf 25 = 10 := by kernel_rfl
theorem cnE : Try.prog.cellsOf 27 = 14 := by kernel_rfl
theorem ctE : Try.prog.cellTypes Try.prog.depth 27 = some [3, 3, 3, 3, 3, 3, 3, 3, 3, 3, 3, 3, 3, 9] := by kernel_rfl
theorem lk3 : LOk Try.prog 3 ⟨.int .i64, 1, 8, [.i .i64]⟩ := .of (tabOk.get rfl)
theorem lk5 : LOk Try.prog 5 ⟨.int .u8, 1, 1, [.i .u8]⟩ := .of (tabOk.get rfl)
theorem lk9 : LOk Try.prog 9 ⟨.str, 1, 16, [.str]⟩ := .of (tabOk.get rfl)
theorem lkH : LOk Try.prog 46 ⟨.int .u16, 1, 2, [.i .u16]⟩ := .of (tabOk.get rfl)
theorem lkR : LOk Try.prog 23 ⟨.struct [(3, 0, 1), (3, 1, 1), (3, 2, 1)], 3, 24, [.i .i64, .i .i64, .i .i64]⟩ := .of (tabOk.get rfl)
theorem lkM : LOk Try.prog 25 ⟨.struct [(3, 0, 1), (3, 1, 1), (3, 2, 1), (23, 3, 3), (3, 6, 1), (3, 7, 1), (3, 8, 1), (9, 9, 1)], 10, 88, [.i .i64, .i .i64, .i .i64, .i .i64, .i .i64, .i .i64, .i .i64, .i .i64, .i .i64, .str]⟩ := .of (tabOk.get rfl)
theorem lkE : LOk Try.prog 27 ⟨.struct [(3, 0, 1), (3, 1, 1), (3, 2, 1), (3, 3, 1), (25, 4, 10)], 14, 120, [.i .i64, .i .i64, .i .i64, .i .i64, .i .i64, .i .i64, .i .i64, .i .i64, .i .i64, .i .i64, .i .i64, .i .i64, .i .i64, .str]⟩ := .of (tabOk.get rfl)
theorem lkI : LOk Try.prog 28 ⟨.slice 3, 1, 24, [.slice]⟩ := .of (tabOk.get rfl)
theorem lkB : LOk Try.prog 29 ⟨.slice 5, 1, 24, [.slice]⟩ := .of (tabOk.get rfl)
theorem lkL : LOk Try.prog 40 ⟨.slice 27, 1, 24, [.slice]⟩ := .of (tabOk.get rfl)

def vI (n : Int) : Value := .int .i64 n
def vM (m : Jo.Mark) : List Value := [vI m.id, vI m.kind, vI m.layer, vI m.who.part, vI m.who.desk, vI m.who.seat, vI m.version, vI m.note, vI m.value, .string ⟨m.text.toArray⟩]
def vE (e : Ev) : List Value := [vI e.clock, vI e.stand, vI e.kind, vI e.n] ++ vM e.mark
theorem rdr_rd {cs : List Value} {x : DataW H × List MemPlace} (h : DataW.trod enc Try.prog W base spare held fuel 23 cs = some x) : ∃ r : Rdr, cs = [vI r.part, vI r.desk, vI r.seat] := by
  obtain ⟨hlen, n, hf⟩ := struct_rd lkR h
  rw [cnR] at hlen
  match cs, hlen with
  | [u0, u1, u2], _ =>
    obtain ⟨y0, h0⟩ := hf 0 3 0 1 rfl
    obtain ⟨y1, h1⟩ := hf 1 3 1 1 rfl
    obtain ⟨y2, h2⟩ := hf 2 3 2 1 rfl
    rw [cn3] at h0 h1 h2
    obtain ⟨n0, e0, _⟩ := int_rd lk3 h0
    obtain ⟨n1, e1, _⟩ := int_rd lk3 h1
    obtain ⟨n2, e2, _⟩ := int_rd lk3 h2
    simp at e0 e1 e2
    subst e0 e1 e2
    exact ⟨⟨n0, n1, n2⟩, rfl⟩
theorem bytes_eta (s : ByteArray) : s = ⟨s.data.toList.toArray⟩ := by cases s; simp
theorem mark_rd {cs : List Value} {x : DataW H × List MemPlace} (h : DataW.trod enc Try.prog W base spare held fuel 25 cs = some x) : ∃ m : Jo.Mark, cs = vM m := by
  obtain ⟨hlen, n, hf⟩ := struct_rd lkM h
  rw [cnM] at hlen
  match cs, hlen with
  | [u0, u1, u2, u3, u4, u5, u6, u7, u8, u9], _ =>
    obtain ⟨y0, h0⟩ := hf 0 3 0 1 rfl
    obtain ⟨y1, h1⟩ := hf 1 3 1 1 rfl
    obtain ⟨y2, h2⟩ := hf 2 3 2 1 rfl
    obtain ⟨y3, h3⟩ := hf 3 23 3 3 rfl
    obtain ⟨y4, h4⟩ := hf 4 3 6 1 rfl
    obtain ⟨y5, h5⟩ := hf 5 3 7 1 rfl
    obtain ⟨y6, h6⟩ := hf 6 3 8 1 rfl
    obtain ⟨y7, h7⟩ := hf 7 9 9 1 rfl
    rw [cn3] at h0 h1 h2 h4 h5 h6
    rw [cnR] at h3
    rw [cn9] at h7
    obtain ⟨n0, e0, _⟩ := int_rd lk3 h0
    obtain ⟨n1, e1, _⟩ := int_rd lk3 h1
    obtain ⟨n2, e2, _⟩ := int_rd lk3 h2
    obtain ⟨r, e3⟩ := rdr_rd h3
    obtain ⟨n4, e4, _⟩ := int_rd lk3 h4
    obtain ⟨n5, e5, _⟩ := int_rd lk3 h5
    obtain ⟨n6, e6, _⟩ := int_rd lk3 h6
    obtain ⟨s, e7, _⟩ := str_rd lk9 h7
    simp at e0 e1 e2 e3 e4 e5 e6 e7
    obtain ⟨e31, e32, e33⟩ := e3
    subst e0 e1 e2 e31 e32 e33 e4 e5 e6 e7
    exact ⟨⟨n0, n1, n2, r, n4, n5, n6, s.data.toList⟩, by unfold vM; rw [← bytes_eta]; rfl⟩
theorem event_rd {cs : List Value} {x : DataW H × List MemPlace} (h : DataW.trod enc Try.prog W base spare held fuel 27 cs = some x) : ∃ e : Ev, cs = vE e := by
  obtain ⟨hlen, n, hf⟩ := struct_rd lkE h
  rw [cnE] at hlen
  match cs, hlen with
  | [u0, u1, u2, u3, u4, u5, u6, u7, u8, u9, u10, u11, u12, u13], _ =>
    obtain ⟨y0, h0⟩ := hf 0 3 0 1 rfl
    obtain ⟨y1, h1⟩ := hf 1 3 1 1 rfl
    obtain ⟨y2, h2⟩ := hf 2 3 2 1 rfl
    obtain ⟨y3, h3⟩ := hf 3 3 3 1 rfl
    obtain ⟨y4, h4⟩ := hf 4 25 4 10 rfl
    rw [cn3] at h0 h1 h2 h3
    rw [cnM] at h4
    obtain ⟨n0, e0, _⟩ := int_rd lk3 h0
    obtain ⟨n1, e1, _⟩ := int_rd lk3 h1
    obtain ⟨n2, e2, _⟩ := int_rd lk3 h2
    obtain ⟨n3, e3, _⟩ := int_rd lk3 h3
    obtain ⟨m, e4⟩ := mark_rd h4
    simp at e0 e1 e2 e3
    subst e0 e1 e2 e3
    refine ⟨⟨n0, n1, n2, n3, m⟩, ?_⟩
    have : [u4, u5, u6, u7, u8, u9, u10, u11, u12, u13] = vM m := by simpa using e4
    unfold vE
    rw [← this]; rfl
theorem vE_rel (e : Ev) : ∀ (j : Nat) c, (encE e)[j]? = some c → VRel (memOf W) [] c ((vE e).getD j undef) := fun j c hj => by
  match j, hj with
  | 0, hj | 1, hj | 2, hj | 3, hj | 4, hj | 5, hj | 6, hj | 7, hj | 8, hj | 9, hj | 10, hj | 11, hj | 12, hj | 13, hj => simp only [encE, List.getElem?_cons_succ, List.getElem?_cons_zero, Option.some.injEq] at hj; subst hj; exact .prim _
  | j + 14, hj => simp [encE] at hj
theorem event_arg {r : Reach} {v : Value} {d : DataW H} {p : List MemPlace} (hval : Value.okWide Try.prog W r b0 27 v) (h : DataW.Trod enc Try.prog W base spare held 27 v d p) : ∃ e : Ev, VRel (memOf W) [] (.agg (encE e)) v := by
  obtain ⟨cs, rfl, hsz, _⟩ := struct_ok lkE ctE hval
  obtain ⟨fuel, hf⟩ := h
  obtain ⟨l, rfl⟩ : ∃ l, cs = List.toArray l := ⟨cs.toList, by simp⟩
  simp only [Value.cells] at hf
  obtain ⟨e, he⟩ := event_rd hf
  subst he
  refine ⟨e, .agg _ _ rfl fun i c hi => ?_⟩
  have := vE_rel (W := W) e i c hi
  simpa using this
theorem ints_arg {r : Reach} {v : Value} {d : DataW H} {p : List MemPlace} (hval : Value.okWide Try.prog W r b0 28 v) (h : DataW.Trod enc Try.prog W base spare held 28 v d p) : ∃ l : List Int, VRel (memOf W) [] (.sl 1 (l.map encN) .no) v := by
  obtain ⟨fuel, hf⟩ := h
  rw [slice_val lkI.und_slice hval] at hf
  obtain ⟨l, h1, _, _⟩ := slice_rel (w := W) (enc := enc) (base := base) (held := held) (spare := spare) encN (fun _ => True) lkI.und_slice cn3 (by decide) (fun n cs y h => by
    obtain ⟨k, e, _⟩ := int_rd lk3 h
    subst e
    exact ⟨k, rfl, fun j c hj => by
      match j, hj with
      | 0, hj => simp at hj; subst hj; exact .prim _
      | j + 1, hj => simp at hj, trivial⟩) (slice_ok lkI.und_slice hval) hf
  exact ⟨l, h1⟩
theorem bytes_arg {r : Reach} {v : Value} {d : DataW H} {p : List MemPlace} {ts : List TypeId} {ds : List (DataW H)} (hval : Value.okWide Try.prog W r b0 29 v) (h : DataW.Trod enc Try.prog W base spare held 29 v d p) (hs : (DataW.weightsEach Try.prog ts ds).all (· ≤ reachBytes) = true) {j : Nat} (ht : ts[j]? = some 29) (hd : ds[j]? = some d) :
    ∃ b : Bs, VRel (memOf W) [] (.sl 1 (b.map by8) .no) v ∧ b.length ≤ 4611686018427387904 := by
  have h' := h
  obtain ⟨fuel, hf⟩ := h
  rw [slice_val lkB.und_slice hval] at hf
  obtain ⟨b, h1, _, _⟩ := slice_rel (w := W) (enc := enc) (base := base) (held := held) (spare := spare) by8 (fun _ => True) lkB.und_slice cn5 (by decide) (fun n cs y h => by
    obtain ⟨k, e, hw⟩ := int_rd lk5 h
    subst e
    have hk : 0 ≤ k ∧ k ≤ 255 := by
      simp only [Lit.wf, Bool.and_eq_true, decide_eq_true_eq] at hw
      exact hw
    refine ⟨UInt8.ofNat k.toNat, rfl, fun j c hj => ?_, trivial⟩
    match j, hj with
    | 0, hj =>
      simp only [List.getElem?_cons_zero, Option.some.injEq] at hj; subst hj
      have : ((UInt8.ofNat k.toNat).toNat : Int) = k := by rw [UInt8.toNat_ofNat']; omega
      show VRel _ _ (.prim (.int .u8 ((UInt8.ofNat k.toNat).toNat : Int))) (.int .u8 k)
      rw [this]; exact .prim _
    | j + 1, hj => simp at hj) (slice_ok lkB.und_slice hval) hf
  refine ⟨b, h1, ?_⟩
  have := slice_sized (b := 1) lkB.und_slice (by kernel_rfl) h' h1 hs ht hd
  have hr : reachBytes = 140737488351232 := by decide
  rw [List.length_map, hr] at this; omega
theorem events_arg {r : Reach} {v : Value} {d : DataW H} {p : List MemPlace} (hval : Value.okWide Try.prog W r b0 40 v) (h : DataW.Trod enc Try.prog W base spare held 40 v d p) : ∃ l : List Ev, VRel (memOf W) [] (.sl 14 (l.map encE) .no) v := by
  obtain ⟨fuel, hf⟩ := h
  rw [slice_val lkL.und_slice hval] at hf
  obtain ⟨l, h1, _, _⟩ := slice_rel (w := W) (enc := enc) (base := base) (held := held) (spare := spare) encE (fun _ => True) lkL.und_slice cnE (by decide) (fun n cs y h => by
    obtain ⟨e, rfl⟩ := event_rd h
    exact ⟨e, rfl, vE_rel e, trivial⟩) (slice_ok lkL.und_slice hval) hf
  exact ⟨l, h1⟩
end
theorem own : ownKnob Try.prog.godebug = none := by kernel_rfl
theorem laidOut : laidOutB Try.prog = true := by kernel_rfl
end Go.Proofs.Ytpkolkfglgalpaa
