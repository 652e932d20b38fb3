/- What is handed in to the laws over alignments reads as a content.  The law AlignSame by content. No statement is proved here. -/
import Derived.Test.YtekfpcgagoidcaaGreatDoorP24
import Derived.Test.YtekfpcgagoidcaaGreatDoorP31
set_option linter.unusedVariables false
set_option linter.unusedSimpArgs false
set_option maxRecDepth 20000
namespace Go.Ab
open Go.ChangeShapes Go.WideShapes
section
variable {H : Type} {enc : TypeId × Value → H} {P : Program} {w : World} {base : Nat} {held : Bool} {spare : Nat → Bool}
theorem slice_relN {α : Type} [Inhabited α] (f : α → List AV) (good : α → Prop) {t e : TypeId} {sz fuel : Nat} {v : Value} {x : DataW H × List MemPlace} (ht : P.underlying t = some (.slice e)) (hsz : P.cellsOf e = sz) (hpos : 0 < sz)
    (elem : ∀ (n : Nat) (cs : List Value) (y : DataW H × List MemPlace), DataW.trod enc P w base spare held n e cs = some y → ∃ a : α, (f a).length = sz ∧ (∀ (j : Nat) c, (f a)[j]? = some c → VRel (memOf w) [] c (cs.getD j undef)) ∧ good a)
    (h : DataW.trod enc P w base spare held fuel t [v] = some x) : ∃ al : List α, VRel (memOf w) [] (.sl sz (al.map f) .no) v ∧ al.length ≤ maxLen ∧ ∀ a ∈ al, good a := by
  have h0 := h
  rcases Deep.open_slice ht h with ⟨hc, _⟩ | ⟨a, len, cap, m, n, D, Pl, hc, _, hl, hm, hmm, _, hx⟩
  · simp at hc; subst hc
    exact ⟨[], .slz sz .no trivial, by simp, fun a ha => by simp at ha⟩
  · simp only [List.cons.injEq, and_true] at hc; subst hc
    cases len with
    | zero => exact ⟨[], .slzz sz (some a) cap, by simp, fun a ha => by simp at ha⟩
    | succ len =>
      refine slice_rel f good ht hsz hpos elem (fun a' len' cap' e => ?_) h0
      cases e
      have hle : 0 < m := by rw [hmm]; split <;> omega
      obtain ⟨cs', h1, _⟩ := hx 0 hle
      rw [hsz] at h1
      obtain ⟨_, _, h5⟩ := World.cells?_some h1
      have h6 := h5 0 hpos
      obtain ⟨b, off, sp⟩ := a
      have e0 : (⟨b, off, sp⟩ : Addr).add (0 * sz) = ⟨b, off, sp⟩ := by rw [Nat.zero_mul]; rfl
      have e1 : (⟨b, off, sp⟩ : Addr).add 0 = ⟨b, off, sp⟩ := rfl
      rw [e0, e1] at h6
      cases h7 : cs'[0]? with
      | none =>
        have h8 := List.getElem?_eq_none_iff.1 h7
        omega
      | some v =>
        rw [h7] at h6
        exact World.cell?_spot h6
end
end Go.Ab
namespace Go.Proofs.YtekfpcgagoidcaaGreatDoor.Al
open Go.Ab Go.ChangeShapes Go.WideShapes
section
variable {H : Type} {enc : TypeId × Value → H} {W : World} {base b0 fuel : Nat} {held : Bool} {spare : Nat → Bool}
theorem lkPq : LOk Tryz.prog 48 ⟨.struct [(3, 0, 1), (3, 1, 1)], 2, 16, [.i .i64, .i .i64]⟩ := .of (tabOk.get rfl)
theorem cnPq : Tryz.prog.cellsOf 48 = 2 := by kernel_rfl
theorem lkSPq : LOk Tryz.prog 27 ⟨.slice 48, 1, 24, [.slice]⟩ := .of (tabOk.get rfl)
theorem cnSPq : Tryz.prog.cellsOf 27 = 1 := by kernel_rfl
theorem lkSI : LOk Tryz.prog 93 ⟨.slice 3, 1, 24, [.slice]⟩ := .of (tabOk.get rfl)
theorem cnSI : Tryz.prog.cellsOf 93 = 1 := by kernel_rfl
theorem lkSSI : LOk Tryz.prog 28 ⟨.slice 93, 1, 24, [.slice]⟩ := .of (tabOk.get rfl)
theorem cnSSI : Tryz.prog.cellsOf 28 = 1 := by kernel_rfl
theorem lkAl : LOk Tryz.prog 30 ⟨.struct [(27, 0, 1), (3, 1, 1), (28, 2, 1)], 3, 56, [.slice, .i .i64, .slice]⟩ := .of (tabOk.get rfl)
theorem cnAl : Tryz.prog.cellsOf 30 = 3 := by kernel_rfl
theorem ctAl : Tryz.prog.cellTypes Tryz.prog.depth 30 = some [27, 3, 28] := by kernel_rfl
theorem rdPq {n : Nat} {cs : List Value} {y : DataW H × List MemPlace} (h : DataW.trod enc Tryz.prog W base spare held n 48 cs = some y) : ∃ p : Int × Int, (encPr p).length = 2 ∧ (∀ (j : Nat) c, (encPr p)[j]? = some c → VRel (memOf W) [] c (cs.getD j undef)) ∧ True := by
  obtain ⟨hlen, n, hf⟩ := struct_rd lkPq h
  rw [cnPq] at hlen
  match cs, hlen with
  | [u0, u1], _ =>
    obtain ⟨y0, h0⟩ := hf 0 3 0 1 rfl
    obtain ⟨y1, h1⟩ := hf 1 3 1 1 rfl
    rw [cn3] at h0 h1
    obtain ⟨n0, e0, _⟩ := int_rd lk3 h0
    obtain ⟨n1, e1, _⟩ := int_rd lk3 h1
    simp at e0 e1
    subst e0 e1
    refine ⟨(n0, n1), rfl, fun j c hj => ?_, trivial⟩
    match j, hj with
    | 0, hj => simp [encPr] at hj; subst hj; exact .prim _
    | 1, hj => simp [encPr] at hj; subst hj; exact .prim _
    | j + 2, hj => simp [encPr] at hj
theorem rdNt {n : Nat} {cs : List Value} {y : DataW H × List MemPlace} (h : DataW.trod enc Tryz.prog W base spare held n 3 cs = some y) : ∃ k : Int, (encI k).length = 1 ∧ (∀ (j : Nat) c, (encI k)[j]? = some c → VRel (memOf W) [] c (cs.getD j undef)) ∧ True := by
  obtain ⟨k, e, _⟩ := int_rd lk3 h
  subst e
  refine ⟨k, rfl, fun j c hj => ?_, trivial⟩
  match j, hj with
  | 0, hj => simp [encI] at hj; subst hj; exact .prim _
  | j + 1, hj => simp [encI] at hj
theorem slice_one {t e : TypeId} {n : Nat} {cs : List Value} {x : DataW H × List MemPlace} (ht : Tryz.prog.underlying t = some (.slice e)) (h : DataW.trod enc Tryz.prog W base spare held n t cs = some x) : ∃ v, cs = [v] := by
  rcases Deep.open_slice ht h with ⟨hc, _⟩ | ⟨a, len, cap, m, n, D, Pl, hc, _⟩
  · exact ⟨_, hc⟩
  · exact ⟨_, hc⟩
theorem rdRw {n : Nat} {cs : List Value} {y : DataW H × List MemPlace} (h : DataW.trod enc Tryz.prog W base spare held n 93 cs = some y) : ∃ r : List Int, (encRow r).length = 1 ∧ (∀ (j : Nat) c, (encRow r)[j]? = some c → VRel (memOf W) [] c (cs.getD j undef)) ∧ r.length ≤ 9223372036854775807 := by
  obtain ⟨v, rfl⟩ := slice_one lkSI.und_slice h
  obtain ⟨r, h1, h2, _⟩ := slice_relN (w := W) (enc := enc) (base := base) (held := held) (spare := spare) encI (fun _ => True) lkSI.und_slice cn3 (by decide) (fun n cs y h => rdNt h) h
  refine ⟨r, rfl, fun j c hj => ?_, h2⟩
  match j, hj with
  | 0, hj => simp [encRow] at hj; subst hj; exact h1
  | j + 1, hj => simp [encRow] at hj
theorem argAlign {r : Reach} {v : Value} {d : DataW H} {p : List MemPlace} (hval : Value.okWide Tryz.prog W r b0 30 v) (h : DataW.Trod enc Tryz.prog W base spare held 30 v d p) : ∃ x : Algn, VRel (memOf W) [] (.agg (encA x)) v ∧ x.Sized := by
  obtain ⟨cs, rfl, hsz, _⟩ := struct_ok lkAl ctAl hval
  obtain ⟨fuel, hf⟩ := h
  obtain ⟨hlen, n, hf⟩ := struct_rd lkAl hf
  rw [cnAl] at hsz
  obtain ⟨l, rfl⟩ : ∃ l, cs = List.toArray l := ⟨cs.toList, by simp⟩
  simp only [Value.cells] at hf
  match l, hsz with
  | [u0, u1, u2], _ =>
    obtain ⟨y0, h1⟩ := hf 0 27 0 1 rfl
    obtain ⟨y1, h0⟩ := hf 1 3 1 1 rfl
    obtain ⟨y2, h2⟩ := hf 2 28 2 1 rfl
    rw [cn3] at h0
    rw [cnSPq] at h1
    rw [cnSSI] at h2
    obtain ⟨n0, e0, _⟩ := int_rd lk3 h0
    simp at e0
    subst e0
    obtain ⟨ps, g1, g2, _⟩ := slice_relN (w := W) (enc := enc) (base := base) (held := held) (spare := spare) encPr (fun _ => True) (v := u0) lkSPq.und_slice cnPq (by decide) (fun n cs y h => rdPq h) h1
    obtain ⟨tb, g3, g4, g5⟩ := slice_relN (w := W) (enc := enc) (base := base) (held := held) (spare := spare) encRow (fun r => r.length ≤ 9223372036854775807) (v := u2) lkSSI.und_slice cnSI (by decide) (fun n cs y h => rdRw h) h2
    refine ⟨⟨ps, n0, tb⟩, .agg _ _ rfl fun i c hi => ?_, ⟨g2, g4, g5⟩⟩
    match i, hi with
    | 0, hi => simp [encA] at hi; subst hi; exact g1
    | 1, hi => simp [encA] at hi; subst hi; exact .prim _
    | 2, hi => simp [encA] at hi; subst hi; exact g3
    | i + 3, hi => simp [encA] at hi
end
end Go.Proofs.YtekfpcgagoidcaaGreatDoor.Al


namespace Go.Proofs.YtekfpcgagoidcaaGreatDoor.Al
open Go.Ab Go.Sort
attribute [local irreducible] AWP AOps EStep AQ PStep PRun PCall TCall VCall
theorem notesR_best {a b : Score} (ha : scoreOk a = true) (hb : scoreOk b = true) {x : Algn} (hx : x.pairs = alignR (costR a b) a.bars.length b.bars.length) : notesR a b x = (notesM a b (np (alignR (costR a b) a.bars.length b.bars.length)), 0) := by
  unfold notesR
  rw [hx, ha, hb, (alignR_ok (costR a b) a.bars.length b.bars.length).1]; rfl
theorem T_swapR (a b : Score) : T (costR b a) b.bars.length a.bars.length = T (costR a b) a.bars.length b.bars.length := by
  have e : costR b a = fun k i => costR a b i k := by funext k i; exact costR_swap a b i k
  rw [e]; exact T_swap _ _
theorem range_getD {α : Type} [Inhabited α] (f : Nat → α) {n k : Nat} (h : k < n) : ((List.range n).map f).getD k default = f k := by
  rw [List.getD_eq_getElem?_getD, List.getElem?_map, List.getElem?_range h]; rfl
theorem map_getD' {α β : Type} [Inhabited α] [Inhabited β] (f : α → β) {l : List α} {k : Nat} (h : k < l.length) : (l.map f).getD k default = f (l.getD k default) := by
  rw [getD_lt (by rw [List.length_map]; exact h), List.getElem_map, getD_lt h]
set_option maxHeartbeats 16000000 in
set_option maxRecDepth 20000 in
theorem same_law (a : Score) (ha : a.Sized) (b : Score) (hb : b.Sized) :
    PCall Tryz.prog 6 [.agg (encS a), .agg (encS b)] (.b true) := by
  have hh := head12_spec
  have hu := usable12_spec a b ha hb
  cases hg : usab a b with
  | true =>
    rw [hg] at hu
    obtain ⟨u1, u2, u3, u4⟩ := usab_iff hg
    have sa := few12_small u1
    have sb := few12_small u2
    have na := few12_notes u1
    have nb := few12_notes u2
    have hgb : usab b a = true := by unfold usab; rw [u1, u2, u3, u4]; rfl
    have hga : usab a a = true := by unfold usab; rw [u1, u3]; rfl
    have hsw := T_swapR a b
    have b1 := aBars_spec a a sa sa
    have b2 := aBars_spec a b sa sb
    have b3 := aBars_spec b a sb sa
    rw [usab_bars hga] at b1
    rw [usab_bars hg] at b2
    rw [usab_bars hgb] at b3
    obtain ⟨s1, s2⟩ := same_align (a := a)
    have s3 := same_notes u3
    obtain ⟨P, hP⟩ : ∃ P, alignR (costR a a) a.bars.length a.bars.length = P := ⟨_, rfl⟩
    have hP1 : P.length = a.bars.length := by rw [← hP, s2, List.length_map, List.length_range]
    have hP2 : ∀ k, k < a.bars.length → P.getD k default = ((k : Int), (k : Int)) := fun k hk => by rw [← hP, s2]; exact range_getD _ hk
    obtain ⟨L, hL⟩ : ∃ L : PL, L = a.notes.map (fun n => (n.id, n.id)) := ⟨_, rfl⟩
    have hL1 : L.length = a.notes.length := by rw [hL, List.length_map]
    have hL2 : ∀ k, k < a.notes.length → L.getD k default = ((a.notes.getD k default).id, (a.notes.getD k default).id) := fun k hk => by rw [hL]; exact map_getD' _ hk
    obtain ⟨T1, hT1⟩ : ∃ t, tableL (costR a a) (a.bars.length + 1) (a.bars.length + 1) = t := ⟨_, rfl⟩
    have e1 : bestA a a = ⟨P, 0, T1⟩ := by unfold bestA; rw [s1, hP, hT1]
    have n1 := aNotes_spec a a sa sa ⟨P, 0, T1⟩ (by show P.length ≤ _; omega)
    rw [notesR_best (x := ⟨P, 0, T1⟩) u3 u3 hP.symm, s3, ← hL] at n1
    rw [e1] at b1
    unfold bestA at b2 b3
    rw [hsw] at b3
    generalize T (costR a b) a.bars.length b.bars.length = c at *
    generalize alignR (costR a b) a.bars.length b.bars.length = P2 at *
    generalize alignR (costR b a) b.bars.length a.bars.length = P3 at *
    generalize tableL (costR a b) (a.bars.length + 1) (b.bars.length + 1) = T2 at *
    generalize tableL (costR b a) (b.bars.length + 1) (a.bars.length + 1) = T3 at *
    clear hP hL hT1 s1 s2 s3 e1 hsw
    dsimp only at b1 b2 b3 n1
    refine PCall.body Tryz.func6 rfl rfl Tryz.ntmps6 rfl rfl ?_
    repeat' (first | refine AOps.q rfl rfl rfl (fun hg => by first | exact std0 | exact PRun.callW (hh) rfl rfl nd rfl nds | exact PRun.callW (hu) rfl rfl nd rfl nds | exact PRun.callW (b1) rfl rfl nd rfl nds | exact PRun.callW (b2) rfl rfl nd rfl nds | exact PRun.callW (b3) rfl rfl nd rfl nds | exact PRun.callW (n1) rfl rfl nd rfl nds | exact std1) (by exact rfl) ?_ | refine AWP.seq ?_ | refine AWP.regionK (fun K' hK => ?_) | (refine AOps.nil (hK _ _ ?_); clear hK K') | refine AOps.e (EStep.boxW rfl rfl rfl rfl rfl True.intro rfl rfl ?_) | refine AOps.e (EStep.storeW tabOk rfl rfl rfl True.intro rfl rfl True.intro rfl rfl rfl rfl rfl rfl rfl ?_) | refine AOps.e (EStep.allocW tabOk rfl rfl rfl rfl rfl rfl ?_) | (refine AWP.condW rfl True.intro (fun hc => ?_) (fun hc => ?_) <;> (first | (simp only [dEt] at hc) | (simp only [dEf, iNl, iNe] at hc) | skip)) | refine AWP.block ?_ | refine AWP.skip ?_ | refine AWP.ret ?_)
    all_goals (first | (exfalso; omega) | (exfalso; simp at hc; done) | (exfalso; simp at hc; omega) | (exfalso; simp only [dEf, dEt] at hc; omega) | (rename_i h0; exfalso; simp at h0; done) | (rename_i h0; exfalso; simp at h0; omega) | skip)
    clear hh hu b1 b2 b3 n1
    refine AWP.loopD (ι := Nat) (fun k => [(2, .ptr 0 0), (5, .b true), (6, .ptr 2 0), (8, .sl 2 (L.map encPr) .no), (10, .ptr 3 0), (12, .ptr 4 0), (81, .sl 2 (P.map encPr) .no), (82, .int P.length), (83, .int k)]) (fun _ => [.var (encS a), .var (encS b), .var (encA ⟨P, 0, T1⟩), .var (encA ⟨P2, c, T2⟩), .var (encA ⟨P3, c, T3⟩)])
      (fun k => k ≤ P.length) (fun k => P.length - k) 5 (fun _ => rfl) 0 (Nat.zero_le _) ⟨rfl, rfl, rfl, rfl, rfl, rfl, rfl, rfl, rfl, True.intro⟩ rfl (fun _ _ => rfl) (fun _ _ => rfl) ?_
    intro k hk
    by_cases hlt : k < P.length
    · have hz := hP2 k (by omega)
      repeat' (first | refine AOps.q rfl rfl rfl (fun hg => by first | exact PRun.eq (v := .iptr (encPr (P.getD ((k : Nat) : Int).toNat default))) (PRun.indexMW tabOk rfl rfl nd rfl nd rfl rfl (by omega)) (congrArg (fun x => AV.iptr (encPr x)) hz) | exact std0 | exact PRun.buildW tabOk rfl rfl nds | exact PRun.eqN flPr rfl rfl nd rfl nd rfl | exact std1) (by exact rfl) ?_ | refine AWP.seq ?_ | refine AWP.regionK (fun K' hK => ?_) | (refine AOps.nil (hK _ _ ?_); clear hK K') | refine AOps.e (EStep.storeW tabOk rfl rfl rfl True.intro rfl rfl True.intro rfl rfl rfl rfl rfl rfl rfl ?_) | refine AOps.e (EStep.allocW tabOk rfl rfl rfl rfl rfl rfl ?_) | (refine AWP.condW rfl True.intro (fun hc => ?_) (fun hc => ?_) <;> (first | (simp only [dEt] at hc) | (simp only [dEf, iNl, iNe] at hc) | skip)) | refine AWP.block ?_ | refine AWP.exit ?_ | refine AWP.skip ?_)
      all_goals (first | (exfalso; omega) | (exfalso; simp at hc; done) | (exfalso; simp at hc; omega) | (exfalso; simp only [dEf, dEt] at hc; omega) | (rename_i h0; exfalso; simp at h0; done) | (rename_i h0; exfalso; simp at h0; omega) | skip)
      refine ⟨k + 1, hlt, by show P.length - (k + 1) < P.length - k; omega, ⟨rfl, ?_, rfl, rfl, rfl, rfl, rfl, rfl, rfl, True.intro⟩, rfl⟩
      show AV.b _ = AV.b true
      simp
    · obtain rfl : k = P.length := by omega
      repeat' (first | refine AOps.q rfl rfl rfl (fun hg => by first | exact std0 | exact std1) (by exact rfl) ?_ | refine AWP.seq ?_ | refine AWP.regionK (fun K' hK => ?_) | (refine AOps.nil (hK _ _ ?_); clear hK K') | refine AOps.e (EStep.storeW tabOk rfl rfl rfl True.intro rfl rfl True.intro rfl rfl rfl rfl rfl rfl rfl ?_) | refine AOps.e (EStep.allocW tabOk rfl rfl rfl rfl rfl rfl ?_) | (refine AWP.condW rfl True.intro (fun hc => ?_) (fun hc => ?_) <;> (first | (simp only [dEt] at hc) | (simp only [dEf, iNl, iNe] at hc) | skip)) | refine AWP.block ?_ | refine AWP.exit ?_ | refine AWP.skip ?_)
      all_goals (first | (exfalso; omega) | (exfalso; simp at hc; done) | (exfalso; simp at hc; omega) | (exfalso; simp only [dEf, dEt] at hc; omega) | (rename_i h0; exfalso; simp at h0; done) | (rename_i h0; exfalso; simp at h0; omega) | skip)
      refine AWP.loopD (ι := Nat) (fun k => [(2, .ptr 0 0), (5, .b true), (6, .ptr 2 0), (10, .ptr 3 0), (12, .ptr 4 0), (97, .sl 2 (L.map encPr) .no), (98, .int L.length), (99, .int k)]) (fun _ => [.var (encS a), .var (encS b), .var (encA ⟨P, 0, T1⟩), .var (encA ⟨P2, c, T2⟩), .var (encA ⟨P3, c, T3⟩)])
        (fun k => k ≤ L.length) (fun k => L.length - k) 5 (fun _ => rfl) 0 (Nat.zero_le _) ⟨rfl, rfl, rfl, rfl, rfl, rfl, rfl, rfl, True.intro⟩ rfl (fun _ _ => rfl) (fun _ _ => rfl) ?_
      intro k hk
      by_cases hlt : k < L.length
      · have hz := hL2 k (by omega)
        obtain ⟨n, hn⟩ : ∃ n, a.notes.getD k default = n := ⟨_, rfl⟩
        rw [hn] at hz
        repeat' (first | refine AOps.q rfl rfl rfl (fun hg => by first | exact PRun.eq (v := .iptr (encPr (L.getD ((k : Nat) : Int).toNat default))) (PRun.indexMW tabOk rfl rfl nd rfl nd rfl rfl (by omega)) (congrArg (fun x => AV.iptr (encPr x)) hz) | exact std0) (by exact rfl) ?_ | refine AWP.seq ?_ | refine AWP.regionK (fun K' hK => ?_) | (refine AOps.nil (hK _ _ ?_); clear hK K') | refine AOps.e (EStep.storeW tabOk rfl rfl rfl True.intro rfl rfl True.intro rfl rfl rfl rfl rfl rfl rfl ?_) | refine AOps.e (EStep.allocW tabOk rfl rfl rfl rfl rfl rfl ?_) | (refine AWP.condW rfl True.intro (fun hc => ?_) (fun hc => ?_) <;> (first | (simp only [dEt] at hc) | (simp only [dEf, iNl, iNe] at hc) | skip)) | refine AWP.block ?_ | refine AWP.exit ?_ | refine AWP.skip ?_ | refine AWP.ret ?_ | refine AWP.drawK2 (by decide +kernel) (by kernel_rfl) (by decide +kernel) rfl (fun K' hK => ?_) | (refine AQ.nil (hK _ ?_); clear hK K') | refine AQ.q rfl rfl (fun hg => by first | exact PRun.eq (v := .iptr (encN (a.notes.getD ((k : Nat) : Int).toNat default))) (PRun.indexMW tabOk rfl rfl nd rfl nd rfl rfl (by omega)) (congrArg (fun x => AV.iptr (encN x)) hn) | exact std0 | exact PRun.buildW tabOk rfl rfl nds | exact PRun.eqN flPr rfl rfl nd rfl nd rfl) (by exact rfl) ?_)
        all_goals (first | (exfalso; omega) | (exfalso; simp at hc; done) | (exfalso; simp at hc; omega) | (exfalso; simp only [dEf, dEt] at hc; omega) | (rename_i h0; exfalso; simp at h0; done) | (rename_i h0; exfalso; simp at h0; omega) | skip)
        refine ⟨k + 1, hlt, by show L.length - (k + 1) < L.length - k; omega, ⟨rfl, ?_, rfl, rfl, rfl, rfl, rfl, rfl, True.intro⟩, rfl⟩
        show AV.b _ = AV.b true
        simp
      · repeat' (first | refine AOps.q rfl rfl rfl (fun hg => by first | exact std0 | exact std1) (by exact rfl) ?_ | refine AWP.seq ?_ | refine AWP.regionK (fun K' hK => ?_) | (refine AOps.nil (hK _ _ ?_); clear hK K') | refine AOps.e (EStep.storeW tabOk rfl rfl rfl True.intro rfl rfl True.intro rfl rfl rfl rfl rfl rfl rfl ?_) | refine AOps.e (EStep.allocW tabOk rfl rfl rfl rfl rfl rfl ?_) | (refine AWP.condW rfl True.intro (fun hc => ?_) (fun hc => ?_) <;> (first | (simp only [dEt] at hc) | (simp only [dEf, iNl, iNe] at hc) | skip)) | refine AWP.block ?_ | refine AWP.exit ?_ | refine AWP.skip ?_ | refine AWP.ret ?_ | refine AWP.drawK2 (by decide +kernel) (by kernel_rfl) (by decide +kernel) rfl (fun K' hK => ?_) | refine AQ.q rfl rfl (fun hg => by first | exact std0 | exact std1) (by exact rfl) ?_)
        all_goals (first | (exfalso; omega) | (exfalso; simp at hc; done) | (exfalso; simp at hc; omega) | (exfalso; simp only [dEf, dEt] at hc; omega) | (rename_i h0; exfalso; simp at h0; done) | (rename_i h0; exfalso; simp at h0; omega) | skip)
        exact ⟨.inr rfl, Ent.b (by simp)⟩
  | false =>
    rw [hg] at hu
    refine PCall.body Tryz.func6 rfl rfl Tryz.ntmps6 rfl rfl ?_
    repeat' (first | refine AOps.q rfl rfl rfl (fun hg => by first | exact std0 | exact PRun.callW (hh) rfl rfl nd rfl nds | exact PRun.callW (hu) rfl rfl nd rfl nds) (by exact rfl) ?_ | refine AWP.seq ?_ | refine AWP.regionK (fun K' hK => ?_) | (refine AOps.nil (hK _ _ ?_); clear hK K') | refine AOps.e (EStep.boxW rfl rfl rfl rfl rfl True.intro rfl rfl ?_) | (refine AWP.condW rfl True.intro (fun hc => ?_) (fun hc => ?_) <;> (first | (simp only [dEt] at hc) | (simp only [dEf, iNl, iNe] at hc) | skip)) | refine AWP.skip ?_ | refine AWP.ret ?_)
    · exact ⟨.inr rfl, Ent.b rfl⟩
    all_goals (exfalso; simp at hc)
end Go.Proofs.YtekfpcgagoidcaaGreatDoor.Al

