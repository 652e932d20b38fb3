/- DERIVED: THE SHELF's CONTRACTS AT THIS DUMP, IN PLAIN WORDS (tools/lay-plain.mjs out of 'YtficfljjnbnhbaaGreatDoorShelf.lean', which tools/lay-shelf.mjs wrote): THE SAME DECLARATIONS UNDER THE SAME NAMES: 'import', 'namespace', 'open', 'def', 'theorem' AND NOTHING ELSE: no command of the shelf's: FOR A HAND-IN. Each laying: the table of numbers ('.._ren') and one theorem, a field a fact of the dump's own or the kernel's comparison; each contract: ONE APPLICATION. Contracts: slices.Clone of notes; notes.sorted.  Contracts by content: notes.sorted, notes.Sort.  Contracts by content: slices.Equal No statement is proved here. -/
import Derived.Shelf.SlSortCmp.WholeK
import Derived.Test.YtficfljjnbnhbaaGreatDoorChecked
import Derived.Test.YtficfljjnbnhbaaGreatDoorP8
import Derived.Test.YtficfljjnbnhbaaGreatDoorP9
import Derived.Test.YtficfljjnbnhbaaGreatDoorP10
import Derived.Test.YtficfljjnbnhbaaGreatDoorP11
set_option linter.unusedVariables false
set_option linter.unusedSimpArgs false
/-
 DERIVED: THE SHELF's CONTRACTS AT THIS DUMP, IN PLAIN WORDS (tools/lay-plain.mjs out of 'YtficfljjnbnhbaaGreatDoorShelf.lean', which tools/lay-shelf.mjs wrote): THE SAME DECLARATIONS UNDER THE SAME NAMES: 'import', 'namespace', 'open', 'def', 'theorem' AND NOTHING ELSE: no command of the shelf's: FOR A HAND-IN. Each laying: the table of numbers ('.._ren') and one theorem, a field a fact of the dump's own or the kernel's comparison; each contract: ONE APPLICATION.
-/
namespace Go.Proofs
open Go.Shelf
def Tryz.sortNote_ren : Go.Shelf.Ren := ⟨fun | 6 => 159 | 15 => 85 | 14 => 180 | 28 => 129 | 29 => 130 | 20 => 190 | 21 => 191 | 22 => 192 | 23 => 193 | 24 => 194 | 25 => 195 | 26 => 196 | 27 => 197 | 46 => 202 | 47 => 163 | 48 => 164 | 49 => 203 | 50 => 204 | 57 => 207 | n => n, fun | 22 => 24 | 24 => 61 | 25 => 190 | 3 => 3 | 39 => 139 | 0 => 0 | 53 => 173 | 55 => 175 | 4 => 4 | 46 => 167 | 45 => 166 | 50 => 147 | 5 => 5 | 9 => 9 | 66 => 191 | 70 => 195 | 76 => 209 | 77 => 210 | n => n, fun | n => n⟩
theorem Tryz.sortNote : Go.Proofs.SlLaysF0.n6 Tryz.prog Tryz.sortNote_ren := {
 mixed := by kernel_rfl
 f6 := ⟨Tryz.f159.name, by decide, Tryz.func159.trans (congrArg some (by kernel_rfl))⟩
 f14 := ⟨Tryz.f180.name, by decide, Tryz.func180.trans (congrArg some (by kernel_rfl))⟩
 f15 := Tryz.func85.trans (congrArg some (by kernel_rfl))
 f20 := ⟨Tryz.f190.name, by decide, Tryz.func190.trans (congrArg some (by kernel_rfl))⟩
 f21 := ⟨Tryz.f191.name, by decide, Tryz.func191.trans (congrArg some (by kernel_rfl))⟩
 f22 := ⟨Tryz.f192.name, by decide, Tryz.func192.trans (congrArg some (by kernel_rfl))⟩
 f23 := ⟨Tryz.f193.name, by decide, Tryz.func193.trans (congrArg some (by kernel_rfl))⟩
 f24 := ⟨Tryz.f194.name, by decide, Tryz.func194.trans (congrArg some (by kernel_rfl))⟩
 f25 := ⟨Tryz.f195.name, by decide, Tryz.func195.trans (congrArg some (by kernel_rfl))⟩
 f26 := ⟨Tryz.f196.name, by decide, Tryz.func196.trans (congrArg some (by kernel_rfl))⟩
 f27 := ⟨Tryz.f197.name, by decide, Tryz.func197.trans (congrArg some (by kernel_rfl))⟩
 f28 := Tryz.func129.trans (congrArg some (by kernel_rfl))
 f29 := Tryz.func130.trans (congrArg some (by kernel_rfl))
 f46 := ⟨Tryz.f202.name, by decide, Tryz.func202.trans (congrArg some (by kernel_rfl))⟩
 f47 := Tryz.func163.trans (congrArg some (by kernel_rfl))
 f48 := Tryz.func164.trans (congrArg some (by kernel_rfl))
 f49 := ⟨Tryz.f203.name, by decide, Tryz.func203.trans (congrArg some (by kernel_rfl))⟩
 f50 := ⟨Tryz.f204.name, by decide, Tryz.func204.trans (congrArg some (by kernel_rfl))⟩
 f57 := ⟨Tryz.f207.name, by decide, Tryz.func207.trans (congrArg some (by kernel_rfl))⟩
 t0 := Tryz.underlying0
 a0 := Tryz.isAgg0
 z0 := Tryz.sizeOf0
 v0 := Tryz.zeroValue0
 t3 := Tryz.underlying3
 a3 := Tryz.isAgg3
 z3 := Tryz.sizeOf3
 v3 := Tryz.zeroValue3
 t4 := Tryz.underlying4
 a4 := Tryz.isAgg4
 z4 := Tryz.sizeOf4
 v4 := Tryz.zeroValue4
 t5 := Tryz.underlying5
 a5 := Tryz.isAgg5
 z5 := Tryz.sizeOf5
 v5 := Tryz.zeroValue5
 t9 := Tryz.underlying9
 a9 := Tryz.isAgg9
 z9 := Tryz.sizeOf9
 v9 := Tryz.zeroValue9
 t22 := Tryz.underlying24
 a22 := Tryz.isAgg24
 z22 := Tryz.sizeOf24
 v22 := Tryz.zeroValue24
 t25 := Tryz.underlying190
 a25 := Tryz.isAgg190
 z25 := Tryz.sizeOf190
 v25 := Tryz.zeroValue190
 t39 := Tryz.underlying139
 a39 := Tryz.isAgg139
 z39 := Tryz.sizeOf139
 v39 := Tryz.zeroValue139
 t45 := Tryz.underlying166
 a45 := Tryz.isAgg166
 z45 := Tryz.sizeOf166
 v45 := Tryz.zeroValue166
 t46 := Tryz.underlying167
 a46 := Tryz.isAgg167
 z46 := Tryz.sizeOf167
 v46 := Tryz.zeroValue167
 t50 := Tryz.underlying147
 a50 := Tryz.isAgg147
 z50 := Tryz.sizeOf147
 v50 := Tryz.zeroValue147
 t53 := Tryz.underlying173
 a53 := Tryz.isAgg173
 z53 := Tryz.sizeOf173
 v53 := Tryz.zeroValue173
 t55 := Tryz.underlying175
 a55 := Tryz.isAgg175
 z55 := Tryz.sizeOf175
 v55 := Tryz.zeroValue175
 t66 := Tryz.underlying191
 a66 := Tryz.isAgg191
 z66 := Tryz.sizeOf191
 v66 := Tryz.zeroValue191
 t70 := Tryz.underlying195
 a70 := Tryz.isAgg195
 z70 := Tryz.sizeOf195
 v70 := Tryz.zeroValue195
 t76 := Tryz.underlying209
 a76 := Tryz.isAgg209
 z76 := Tryz.sizeOf209
 v76 := Tryz.zeroValue209
 t77 := Tryz.underlying210
 a77 := Tryz.isAgg210
 z77 := Tryz.sizeOf210
 v77 := Tryz.zeroValue210 }
end Go.Proofs
namespace Go.Proofs.YtficfljjnbnhbaaGreatDoor
open Go.Ab Go.Sort
attribute [local irreducible] AWP AOps EStep AQ PStep PRun PCall TCall VCall
theorem one_encN (l : List Note) : ∀ x ∈ l.map encN, x.all oneAV = true := fun x hx => by
 obtain ⟨c, _, rfl⟩ := zAi.1 hx; rfl
theorem clone_T (l : List Note) (hl : l.length ≤ 1000000000) (u : AV) (hu : okObj 1 (.var [u]) = true) (hu2 : okObj 2 (.var [u]) = true) : TCall Tryz.prog 158 [.sl 12 (l.map encN) .no] [.var [u]]
 (fun r s => (l = [] ∧ r = .nils ∧ s = [.var [u]]) ∨ (r = .sla 1 12 0 l.length 0 ∧ s = [.var [u], .arr 12 0 (l.map encN)])) := by
 have hll : (l.map encN).length = l.length := by simp
 refine TCall.body Tryz.func158 rfl rfl Tryz.ntmps158 rfl rfl ?_
 repeat' (first | refine aoQ rfl rfl rfl (fun hg => by exact std0) (by exact rfl) ?_ | refine sqW ?_ | refine rgK (fun K' hK => ?_) | (refine aoN (hK _ _ ?_); clear hK K') | refine aoE (EStep.nilSl tabOk rfl rfl rfl rfl rfl tI rfl ?_))
 intro b hb
 repeat' (first | refine aoQ rfl rfl rfl (fun hg => by first | exact PRun.buildSl0 tabOk rfl rfl | exact std0 | exact std1) (by exact rfl) ?_ | refine sqW ?_ | refine rgK (fun K' hK => ?_) | (refine aoN (hK _ _ ?_); clear hK K') | refine aoE (EStep.appendArrF tabOk rfl rfl rfl rfl (Rd.w rfl tI) (Rd.w rfl tI) (.sl rfl (one_encN _)) (LOk.of (tabOk.get rfl)) (LOk.of (tabOk.get rfl)) rfl rfl (by simp only [hll]; omega) (by omega) ?_) | refine cdN rfl tI (fun hc => ?_) (fun hc => ?_) | refine skW ?_ | refine rtW ?_)
 · exact ⟨.inr rfl, .nils, [.var [u]], .inl ⟨by simpa using hb hc, rfl, rfl⟩, rfl, nLr _, by simpa using hu, rfl, rfl⟩
 · refine ⟨.inr rfl, .sla 1 12 0 (l.map encN).length 0, [.var [u], .arr 12 0 (l.map encN)], .inr ⟨by rw [hll], rfl⟩, rfl, by simp, ?_, rfl, rfl⟩
   simp only [zBu, zC8, zA5, zAb, zC3, Nat.reduceAdd, hu2, zBl, zBm]
   simp [okObj, encN, okRef]
instance (n : Note) : Decidable (noteIn n) := by unfold noteIn; infer_instance
def fixN (n : Note) : Note := if noteIn n then n else ⟨1, 1, 0, 0, 0, ⟨0, 1⟩, ⟨0, 1⟩, ⟨0, 0, 0⟩⟩
theorem fixN_in (n : Note) : noteIn (fixN n) := by
 unfold fixN; split
 · assumption
 · decide
theorem fixN_eq {n : Note} (h : noteIn n) : fixN n = n := if_pos h
def encV (n : Note) : List Value := let m := fixN n; [.int .i64 m.id, .int .i64 m.part, .int .i64 m.bar, .int .i64 m.voice, .int .i64 m.ossia, .int .i64 m.start.n, .int .i64 m.start.d, .int .i64 m.len.n, .int .i64 m.len.d, .int .i64 m.pitch.step, .int .i64 m.pitch.alter, .int .i64 m.pitch.oct]
theorem encV_enc (n : Note) : (encV n).map AV.prim = encN (fixN n) := rfl
def sortN (al : List (Int × Int)) (l : List Note) : List Note := sortL (fun x y => cmpN al (fixN x) (fixN y)) l
theorem sortN_len (al : List (Int × Int)) (l : List Note) : (sortN al l).length = l.length := by
 have := (sortL_spec _ (swoN al fixN) l).1.1
 simpa [sortN] using this
theorem sortN_perm (al : List (Int × Int)) (l : List Note) : (sortN al l).Perm l := by
 have h := (sortL_spec _ (swoN al fixN) l).1.2.2
 have hl := sortN_len al l
 rw [← hl] at h
 unfold sortN at h hl ⊢
 simp only [zCq, List.extract_toArray, List.extract_eq_take_drop, Nat.sub_zero, zDf] at h
 rw [zAu (nLr _), hl, zAu (nLr _)] at h
 exact h
theorem sortN_enc (al : List (Int × Int)) {l : List Note} (h : ∀ n ∈ l, noteIn n) : (sortN al l).map (fun x => (encV x).map AV.prim) = (sortN al l).map encN := by
 refine zDj fun x hx => ?_
 rw [encV_enc, fixN_eq (h x ((sortN_perm al l).mem_iff.1 hx))]
theorem enc_fix {l : List Note} (h : ∀ n ∈ l, noteIn n) : l.map (fun x => (encV x).map AV.prim) = l.map encN := by
 refine zDj fun x hx => ?_
 rw [encV_enc, fixN_eq (h x hx)]
theorem pureN (l : List Note) : ∀ e ∈ l.map encN, ∀ a ∈ e, ∀ M B x, VRel M B a x → VRel M [] a x := fun e he a ha M B x hx => by
 obtain ⟨n, _, rfl⟩ := zAi.1 he
 simp only [encN, zB7, List.not_mem_nil, or_false] at ha
 rcases ha with rfl | rfl | rfl | rfl | rfl | rfl | rfl | rfl | rfl | rfl | rfl | rfl <;> (rw [VRel.prim_eq hx]; exact .prim _)
theorem fnOk_sort : FnOk Tryz.prog 159 := ⟨_, Tryz.func159, rfl, rfl⟩
theorem fnOk_cmp : FnOk Tryz.prog 160 := ⟨_, Tryz.func160, rfl, rfl⟩
theorem sortT (al : List (Int × Int)) (hal : ∀ k i, lk al k = some i → 0 ≤ i ∧ i < 4611686018427387904) (l : List Note) (hl : l.length ≤ 1000000000) (hin : ∀ n ∈ l, noteIn n) :
 TCall Tryz.prog 159 [.sla 1 12 0 l.length 0, .fn (.func 160) [] [.ptr 0 0]] [.var [.imap (encM ekI AV.int al)], .arr 12 0 (l.map encN)]
  (fun r s => r = .tup [] ∧ s = [.var [.imap (encM ekI AV.int al)], .arr 12 0 ((sortN al l).map encN)]) := by
 have h := TCall.sortA (P := Tryz.prog) (ρ := Tryz.sortNote_ren) Tryz.sortNote (sz := 12) Tryz.isAgg61 Tryz.sizeOf61 encV (fun _ => rfl) (fun x v hv => by
  simp only [encV, zB7, List.not_mem_nil, or_false] at hv
  rcases hv with rfl | rfl | rfl | rfl | rfl | rfl | rfl | rfl | rfl | rfl | rfl | rfl <;> rfl)
  (fun x y => cmpN al (fixN x) (fixN y)) (swoN al fixN) (g := 160) (caps := [.ptr 0 0]) (σ := [.var [.imap (encM ekI AV.int al)], .arr 12 0 (l.map encN)]) fnOk_sort fnOk_cmp
  (fun x y => cmpN_spec al hal (fixN x) (fixN y) (fixN_in x) (fixN_in y)) (l := 1) (ver := 0) (xs := l) (by rw [enc_fix hin]; rfl) (by omega)
 refine TCall.mono h ?_
 rintro r s ⟨h1, h2⟩
 refine ⟨h1, ?_⟩
 rw [h2]
 show [_, AObj.arr 12 0 ((sortN al l).map fun x => (encV x).map AV.prim)] = _
 rw [sortN_enc al hin]
theorem idx_small (bars : List Bar) (hb : bars.length ≤ 1000000000) : ∀ k i, lk (idxAL bars) k = some i → 0 ≤ i ∧ i < 4611686018427387904 := fun k i h => by
 rw [idxAL_eq] at h
 obtain ⟨j, h1, h2, _⟩ := lk_idx bars k _ i h
 omega
theorem sorted_spec (bars : List Bar) (l : List Note) (hb : bars.length ≤ 1000000000) (hl : l.length ≤ 1000000000) (hin : ∀ n ∈ l, noteIn n) :
 PCall Tryz.prog 120 [.sl 4 (bars.map encB) .no, .sl 12 (l.map encN) .no] (.sl 12 ((sortN (idxAL bars) l).map encN) .no) := by
 have hi := indexes_spec bars (by omega)
 have hc := TCall.val (first := []) (caps := []) (avs := [.sl 12 (l.map encN) .no]) (clone_T l hl (.imap (encM ekI AV.int (idxAL bars))) (by simp [okObj, okRef]) (by simp [okObj, okRef]))
 have hs := TCall.val (first := []) (caps := []) (avs := [.sla 1 12 0 l.length 0, .fn (.func 160) [] [.ptr 0 0]]) (sortT (idxAL bars) (idx_small bars hb) l hl hin)
 have h0 := fun u => PCall.sort0 (P := Tryz.prog) (ρ := Tryz.sortNote_ren) Tryz.sortNote fnOk_sort u
 refine PCall.body Tryz.func120 rfl rfl Tryz.ntmps120 rfl rfl ?_
 repeat' (first | refine aoQ rfl rfl rfl (fun hg => by first | exact std0 | exact pcW (hi) rfl rfl nd rfl nds | exact std1) (by exact rfl) ?_ | refine sqW ?_ | refine rgK (fun K' hK => ?_) | (refine aoN (hK _ _ ?_); clear hK K') | refine aoE (stW tabOk rfl rfl rfl tI rfl rfl tI rfl rfl rfl rfl rfl rfl rfl ?_) | refine aoE (alW tabOk rfl rfl rfl rfl rfl rfl ?_) | refine aoE (scT (hc) rfl rfl rfl rfl rfl nd rfl rfl nds ?_))
 rintro r s (⟨h1, rfl, rfl⟩ | ⟨rfl, rfl⟩)
 · subst h1
   repeat' (first | refine aoQ rfl rfl rfl (fun hg => by first | exact std0 | exact pcW (h0 _) rfl rfl nd rfl nds | exact std1) (by exact rfl) ?_ | refine sqW ?_ | refine rgK (fun K' hK => ?_) | (refine aoN (hK _ _ ?_); clear hK K') | refine rtW ?_)
   refine ⟨.inr rfl, ?_⟩
   rw [zB0 (sortN_len (idxAL bars) [])]
   exact Ent.nil
 · repeat' (first | refine aoQ rfl rfl rfl (fun hg => by exact std0) (by exact rfl) ?_ | refine sqW ?_ | refine rgK (fun K' hK => ?_) | (refine aoN (hK _ _ ?_); clear hK K') | refine aoE (scT (hs) rfl rfl rfl rfl rfl nd rfl rfl nds ?_))
   rintro r s ⟨rfl, rfl⟩
   repeat' (first | refine aoQ rfl rfl rfl (fun hg => by exact std0) (by exact rfl) ?_ | refine sqW ?_ | refine rgK (fun K' hK => ?_) | (refine aoN (hK _ _ ?_); clear hK K'))
   refine AWP.freezeA (d := 4) (l := 1) (sz := 12) (ver := 0) (es := (sortN (idxAL bars) l).map encN) (by show AV.sla 1 12 0 l.length 0 = _; rw [lLm, sortN_len]) rfl (pureN _) ?_
   refine rtW ⟨.inr rfl, ?_⟩
   exact fun _ _ h => h
theorem notesOk_in {bars : List Bar} {l : List Note} (h : notesOk bars l = true) : ∀ n ∈ l, noteIn n := fun n hn => by
 unfold notesOk at h
 simp only [zA0, zA8] at h
 have h1 := h.1.2 n hn
 have hf : noteForm n = true := by
  unfold noteOk at h1
  split at h1
  · unfold nformed at h1; simp only [zA0] at h1; exact h1.2
  · cases h1
 unfold noteForm at hf
 simp only [zA0, inB, dEt] at hf
 unfold noteIn
 omega
def sortR (bars : List Bar) (l : List Note) : List Note × Int := if notesOk bars l then (sortN (idxAL bars) l, 0) else ([], 1)
theorem Sort_spec (bars : List Bar) (l : List Note) (hb : bars.length ≤ 1000000000) (hl : l.length ≤ 1000000000) :
 PCall Tryz.prog 77 [.sl 4 (bars.map encB) .no, .sl 12 (l.map encN) .no] (.tup [.sl 12 ((sortR bars l).1.map encN) .no, .int (sortR bars l).2]) := by
 have v := nvalid_spec bars l (by omega) (by omega)
 refine PCall.body Tryz.func77 rfl rfl Tryz.ntmps77 rfl rfl ?_
 by_cases h : notesOk bars l = true
 · have w := sorted_spec bars l hb hl (notesOk_in h)
   repeat' (first | refine aoQ rfl rfl rfl (fun hg => by first | exact std0 | exact pcW (v) rfl rfl nd rfl nds | exact pcW (w) rfl rfl nd rfl nds | exact std1) (by exact rfl) ?_ | refine sqW ?_ | refine rgK (fun K' hK => ?_) | (refine aoN (hK _ _ ?_); clear hK K') | refine cdN rfl tI (fun hc => ?_) (fun hc => ?_) | refine skW ?_ | refine rtW ?_)
   · exfalso; simp [h] at hc
   · refine ⟨.inr rfl, Ent.of ?_⟩
     rw [show sortR bars l = (sortN (idxAL bars) l, 0) from by unfold sortR; rw [if_pos h]]; rfl
 · repeat' (first | refine aoQ rfl rfl rfl (fun hg => by first | exact std0 | exact pcW (v) rfl rfl nd rfl nds | exact std1) (by exact rfl) ?_ | refine sqW ?_ | refine rgK (fun K' hK => ?_) | (refine aoN (hK _ _ ?_); clear hK K') | refine cdN rfl tI (fun hc => ?_) (fun hc => ?_) | refine skW ?_ | refine rtW ?_)
   · refine ⟨.inr rfl, ?_⟩
     rw [show sortR bars l = ([], 1) from by unfold sortR; rw [if_neg h]]
     exact Ent.tup2 Ent.nil (Ent.rfl' _)
   · exfalso; simp [h] at hc
end Go.Proofs.YtficfljjnbnhbaaGreatDoor
namespace Go.Proofs.YtficfljjnbnhbaaGreatDoor
open Go.Ab
attribute [local irreducible] AWP AOps EStep AQ PStep PRun PCall TCall VCall
theorem list_ne_len {α : Type} [BEq α] [LawfulBEq α] {a b : List α} (h : a.length ≠ b.length) : (a == b) = false := by
 cases hh : a == b with
 | false => rfl
 | true => exact absurd (congrArg List.length (eq_of_beq hh)) h
theorem list_ne_at {α : Type} [BEq α] [LawfulBEq α] [Inhabited α] {a b : List α} {k : Nat} (h : a.getD k default ≠ b.getD k default) : (a == b) = false := by
 cases hh : a == b with
 | false => rfl
 | true => exact absurd (by rw [eq_of_beq hh]) h
theorem list_eq_all {α : Type} [BEq α] [LawfulBEq α] [Inhabited α] {a b : List α} (hl : a.length = b.length) (h : ∀ j, j < a.length → a.getD j default = b.getD j default) : (a == b) = true := by
 have : a = b := List.ext_getElem hl fun i h1 h2 => by
  have := h i h1
  simpa [List.getD, h1, h2] using this
 rw [this]; simp
theorem flN : flatN Tryz.prog 61 = some [.int .i64, .int .i64, .int .i64, .int .i64, .int .i64, .int .i64, .int .i64, .int .i64, .int .i64, .int .i64, .int .i64, .int .i64] := by kernel_rfl
def eqNo (a b : Note) : Bool := a.id == b.id && (a.part == b.part && (a.bar == b.bar && (a.voice == b.voice && (a.ossia == b.ossia && (a.start.n == b.start.n && (a.start.d == b.start.d && (a.len.n == b.len.n && (a.len.d == b.len.d && (a.pitch.step == b.pitch.step && (a.pitch.alter == b.pitch.alter && (a.pitch.oct == b.pitch.oct && true)))))))))))
theorem eqNo_eq (a b : Note) : eqNo a b = (a == b) := by
 unfold eqNo
 rw [zAs]
 obtain ⟨a1, a2, a3, a4, a5, ⟨a6, a7⟩, ⟨a8, a9⟩, ⟨a10, a11, a12⟩⟩ := a
 obtain ⟨b1, b2, b3, b4, b5, ⟨b6, b7⟩, ⟨b8, b9⟩, ⟨b10, b11, b12⟩⟩ := b
 simp [and_assoc]
theorem equalN_spec (a b : List Note) (ha : a.length ≤ 9223372036854775807) (hb : b.length ≤ 9223372036854775807) : PCall Tryz.prog 78 [.sl 12 (a.map encN) .no, .sl 12 (b.map encN) .no] (.b (a == b)) := by
 refine PCall.body Tryz.func78 rfl rfl Tryz.ntmps78 rfl rfl ?_
 repeat' (first | refine aoQ rfl rfl rfl (fun hg => by first | exact std0 | exact std1) (by exact rfl) ?_ | refine sqW ?_ | refine rgK (fun K' hK => ?_) | (refine aoN (hK _ _ ?_); clear hK K') | refine cdN rfl tI (fun hc => ?_) (fun hc => ?_) | refine blK ?_ | refine skW ?_ | refine rtW ?_)
 · refine ⟨.inr rfl, Ent.b (list_ne_len ?_).symm⟩
   simp only [zAj, zBe, zA0, zAh, zCj, dEt, dEf, zAm, zAp, beq_iff_eq, beq_eq_false_iff_ne, bne_iff_ne, bne_eq_false_iff_eq, gt_iff_lt, ge_iff_le, ne_eq] at hc; omega
 have hlen : a.length = b.length := by simp only [zAj, zBe, zA0, zAh, zCj, dEt, dEf, zAm, zAp, beq_iff_eq, beq_eq_false_iff_ne, bne_iff_ne, bne_eq_false_iff_eq, gt_iff_lt, ge_iff_le, ne_eq] at hc; omega
 refine lpW (ι := Nat) (fun k => [(0, .sl 12 (a.map encN) .no), (1, .sl 12 (b.map encN) .no), (12, .int a.length), (13, .int k)]) (fun _ => []) (fun k => k ≤ a.length ∧ ∀ j, j < k → a.getD j default = b.getD j default) (fun k => a.length - k) 0 ⟨nZl _, fun j h => absurd h (by omega)⟩ ⟨rfl, rfl, rfl, rfl, tI⟩ rfl ?_
 rintro k ⟨hk, hall⟩
 by_cases hlt : k < a.length
 · repeat' (first | refine aoQ rfl rfl rfl (fun hg => by exact std0) (by exact rfl) ?_ | refine sqW ?_ | refine rgK (fun K' hK => ?_) | (refine aoN (hK _ _ ?_); clear hK K') | refine cdN rfl tI (fun hc => ?_) (fun hc => ?_) | refine blK ?_ | refine exW ?_ | refine skW ?_ | refine rtW ?_ | refine dK2 (by decide +kernel) (by kernel_rfl) (by decide +kernel) rfl (fun K' hK => ?_) | (refine aqN (hK _ ?_); clear hK K') | refine aqQ rfl rfl (fun hg => by first | exact std0 | exact PRun.neN flN rfl rfl nd rfl nd rfl | exact std1) (by exact rfl) ?_)
   · refine ⟨.inr rfl, Ent.b (list_ne_at (k := k) ?_).symm⟩
     have h1 : (!(eqNo (a.getD k default) (b.getD k default))) = true := hc
     rw [eqNo_eq] at h1
     simpa using h1
   · refine ⟨k + 1, ⟨by omega, fun j hj => lt_succ_cases hall ?_ hj⟩, by omega, ⟨rfl, rfl, rfl, rfl, tI⟩, rfl⟩
     have h1 : (!(eqNo (a.getD k default) (b.getD k default))) = false := hc
     rw [eqNo_eq] at h1
     simpa using h1
   · exfalso; omega
 · repeat' (first | refine aoQ rfl rfl rfl (fun hg => by exact std0) (by exact rfl) ?_ | refine sqW ?_ | refine rgK (fun K' hK => ?_) | (refine aoN (hK _ _ ?_); clear hK K') | refine cdN rfl tI (fun hc => ?_) (fun hc => ?_) | refine blK ?_ | refine exW ?_ | refine skW ?_ | refine rtW ?_ | refine dK2 (by decide +kernel) (by kernel_rfl) (by decide +kernel) rfl (fun K' hK => ?_) | refine aqQ rfl rfl (fun hg => by first | exact std0 | exact std1) (by exact rfl) ?_)
   all_goals (first | (exfalso; omega) | skip)
   exact ⟨.inr rfl, Ent.b (list_eq_all hlen fun j hj => hall j (by omega)).symm⟩
structure Part where
 id : Int
 section_ : Int
 of_ : Int
 octave : Int
 desks : Int
 shift : Interval
 low : Pitch
 high : Pitch
 deriving DecidableEq, Inhabited
def encP (p : Part) : List AV := [.int p.id, .int p.section_, .int p.of_, .int p.octave, .int p.desks, .int p.shift.steps, .int p.shift.semi, .int p.low.step, .int p.low.alter, .int p.low.oct, .int p.high.step, .int p.high.alter, .int p.high.oct]
theorem swithin_spec (a b c : Int) : PCall Tryz.prog 108 [.int a, .int b, .int c] (.b (inB a b c)) := by
 refine PCall.body Tryz.func108 rfl rfl Tryz.ntmps108 rfl rfl ?_
 repeat' (first | refine aoQ rfl rfl rfl (fun hg => by exact std0) (by exact rfl) ?_ | refine sqW ?_ | refine rgK (fun K' hK => ?_) | (refine aoN (hK _ _ ?_); clear hK K') | refine rtW ?_)
 exact ⟨.inr rfl, Ent.b rfl⟩
theorem sisID_spec (a : Int) : PCall Tryz.prog 72 [.int a] (.b (inB a 1 1000000)) := by
 refine PCall.body Tryz.func72 rfl rfl Tryz.ntmps72 rfl rfl ?_
 repeat' (first | refine aoQ rfl rfl rfl (fun hg => by first | exact std0 | exact pcW (swithin_spec _ _ _) rfl rfl nd rfl nds | exact std1) (by exact rfl) ?_ | refine sqW ?_ | refine rgK (fun K' hK => ?_) | (refine aoN (hK _ _ ?_); clear hK K') | refine rtW ?_)
 exact ⟨.inr rfl, Ent.b rfl⟩
theorem partID_spec (b : Part) : PCall Tryz.prog 98 [.agg (encP b)] (.int b.id) := by
 refine PCall.body Tryz.func98 rfl rfl Tryz.ntmps98 rfl rfl ?_
 repeat' (first | refine aoQ rfl rfl rfl (fun hg => by first | exact std0 | exact std1) (by exact rfl) ?_ | refine sqW ?_ | refine rgK (fun K' hK => ?_) | (refine aoN (hK _ _ ?_); clear hK K') | refine aoE (bxW rfl rfl rfl rfl rfl tI rfl rfl ?_) | refine aoE (stW tabOk rfl rfl rfl tI rfl rfl tI rfl rfl rfl rfl rfl rfl rfl ?_) | refine aoE (alW tabOk rfl rfl rfl rfl rfl rfl ?_) | refine cdN rfl tI (fun hc => ?_) (fun hc => ?_) | refine blK ?_ | refine exW ?_ | refine skW ?_ | refine rtW ?_ | refine dK2 (by decide +kernel) (by kernel_rfl) (by decide +kernel) rfl (fun K' hK => ?_) | refine dL2 (by kernel_rfl) (by decide +kernel) rfl (fun K' hK => ?_) | (refine aqN (hK _ ?_); clear hK K') | refine aqN ?_ | refine aqQ rfl rfl (fun hg => by first | exact std0 | exact std1) (by exact rfl) ?_)
 exact ⟨.inr rfl, Ent.int rfl⟩
def shiftOk (i : Interval) : Bool := (fifthsR i).2 == 0 && inB i.steps (-21) 21 && inB i.semi (-36) 36 && inB (fifthsR i).1 (-12) 12
theorem shifts_spec (i : Interval) : PCall Tryz.prog 150 [.agg (encI i)] (.b (shiftOk i)) := by
 refine PCall.body Tryz.func150 rfl rfl Tryz.ntmps150 rfl rfl ?_
 repeat' (first | refine aoQ rfl rfl rfl (fun hg => by first | exact std0 | exact pcW (fifths_spec i) rfl rfl nd rfl nds | exact pcW (swithin_spec _ _ _) rfl rfl nd rfl nds | exact std1) (by exact rfl) ?_ | refine sqW ?_ | refine rgK (fun K' hK => ?_) | (refine aoN (hK _ _ ?_); clear hK K') | refine aoE (bxW rfl rfl rfl rfl rfl tI rfl rfl ?_) | refine rtW ?_)
 exact ⟨.inr rfl, Ent.b rfl⟩
theorem height_spec (p : Pitch) : PCall Tryz.prog 118 [.agg (encPi p)] (.int (numR2 p).1) := by
 refine PCall.body Tryz.func118 rfl rfl Tryz.ntmps118 rfl rfl ?_
 repeat' (first | refine aoQ rfl rfl rfl (fun hg => by first | exact std0 | exact pcW (pNumber_spec p) rfl rfl nd rfl nds | exact std1) (by exact rfl) ?_ | refine sqW ?_ | refine rgK (fun K' hK => ?_) | (refine aoN (hK _ _ ?_); clear hK K') | refine aoE (bxW rfl rfl rfl rfl rfl tI rfl rfl ?_) | refine rtW ?_)
 exact ⟨.inr rfl, Ent.int rfl⟩
def partNums (p : Part) : Bool := inB p.id 1 1000000 && inB p.section_ 0 99 && inB p.of_ 0 1000000 && inB p.octave (-2) 2 && inB p.desks 1 40
def partBad (p : Part) : Bool := !partNums p || p.of_ == p.id || (p.of_ == 0 && p.octave != 0) || !shiftOk p.shift
def partOk (p : Part) : Bool := !partBad p && (pitchOk p.low && pitchOk p.high && decide ((numR2 p.low).1 ≤ (numR2 p.high).1))
theorem isPart_spec (p : Part) : PCall Tryz.prog 111 [.agg (encP p)] (.b (partOk p)) := by
 refine PCall.body Tryz.func111 rfl rfl Tryz.ntmps111 rfl rfl ?_
 repeat' (first | refine aoQ rfl rfl rfl (fun hg => by first | exact std0 | exact pcW (sisID_spec _) rfl rfl nd rfl nds | exact pcW (swithin_spec _ _ _) rfl rfl nd rfl nds | exact pcW (shifts_spec p.shift) rfl rfl nd rfl nds | exact std1) (by exact rfl) ?_ | refine sqW ?_ | refine rgK (fun K' hK => ?_) | (refine aoN (hK _ _ ?_); clear hK K') | refine aoE (bxW rfl rfl rfl rfl rfl tI rfl rfl ?_) | refine cdN rfl tI (fun hc => ?_) (fun hc => ?_) | refine skW ?_ | refine rtW ?_ | refine dK2 (by decide +kernel) (by kernel_rfl) (by decide +kernel) rfl (fun K' hK => ?_) | (refine aqN (hK _ ?_); clear hK K') | refine aqQ rfl rfl (fun hg => by first | exact std0 | exact pcW (pvalid_spec p.low) rfl rfl nd rfl nds | exact pcW (pvalid_spec p.high) rfl rfl nd rfl nds | exact pcW (height_spec p.low) rfl rfl nd rfl nds | exact pcW (height_spec p.high) rfl rfl nd rfl nds | exact std1) (by exact rfl) ?_)
 · refine ⟨.inr rfl, Ent.b (Eq.symm ?_)⟩
   unfold partOk
   rw [show partBad p = true from hc]; rfl
 · refine ⟨.inr rfl, Ent.b (Eq.symm ?_)⟩
   unfold partOk
   rw [show partBad p = false from hc]; rfl
end Go.Proofs.YtficfljjnbnhbaaGreatDoor
namespace Go.Proofs.YtficfljjnbnhbaaGreatDoor.Mk
open Go.Ab Go.Jo
attribute [local irreducible] AWP AOps EStep AQ PStep PRun PCall TCall VCall DStep TDies AWD DCall
def eqR (a b : Rdr) : Bool := a.part == b.part && (a.desk == b.desk && (a.seat == b.seat && true))
theorem eqR_eq (a b : Rdr) : eqR a b = (a == b) := by
 unfold eqR
 rw [zAs]
 obtain ⟨a1, a2, a3⟩ := a
 obtain ⟨b1, b2, b3⟩ := b
 simp
def forM (m : Jo.Mark) (sec : Int) (r : Rdr) : Bool :=
 if m.layer = 1 then m.who == r else if m.layer = 2 then m.who.part == r.part && m.who.desk == r.desk else if m.layer = 3 then m.who.part == sec else true
theorem for19_spec (m : Jo.Mark) (sec : Int) (r : Rdr) : PCall Tryz.prog 139 [.agg (encMk m), .int sec, .agg (encRd r)] (.b (forM m sec r)) := by
 refine PCall.body Tryz.func139 rfl rfl Tryz.ntmps139 rfl rfl ?_
 repeat' (first | refine aoQ rfl rfl rfl (fun hg => by first | exact std0 | exact PRun.eqN flR rfl rfl nd rfl nd rfl) (by exact rfl) ?_ | refine sqW ?_ | refine rgK (fun K' hK => ?_) | (refine aoN (hK _ _ ?_); clear hK K') | refine aoE (bxW rfl rfl rfl rfl rfl tI rfl rfl ?_) | refine cdN rfl tI (fun hc => ?_) (fun hc => ?_) | refine blK ?_ | refine skW ?_ | refine rtW ?_)
 · refine ⟨.inr rfl, Ent.b ?_⟩
   show eqR m.who r = _
   unfold forM
   rw [if_pos (eq_of_beq hc), eqR_eq]
 all_goals (refine ⟨.inr rfl, Ent.b ?_⟩; unfold forM; simp_all [beq_iff_eq])
def cnt (a b : Jo.Mark) : Bool := if a.layer = b.layer then decide (b.id < a.id) else decide (b.layer < a.layer)
theorem counts19_spec (a b : Jo.Mark) : PCall Tryz.prog 140 [.agg (encMk a), .agg (encMk b)] (.b (cnt a b)) := by
 refine PCall.body Tryz.func140 rfl rfl Tryz.ntmps140 rfl rfl ?_
 repeat' (first | refine aoQ rfl rfl rfl (fun hg => by exact std0) (by exact rfl) ?_ | refine sqW ?_ | refine rgK (fun K' hK => ?_) | (refine aoN (hK _ _ ?_); clear hK K') | refine aoE (bxW rfl rfl rfl rfl rfl tI rfl rfl ?_) | refine rtW ?_)
 refine ⟨.inr rfl, Ent.b ?_⟩
 show (decide (a.layer > b.layer) || (a.layer == b.layer && decide (a.id > b.id))) = _
 unfold cnt
 rw [zAs]
 split <;> simp <;> omega
theorem counts_spec (a b : Jo.Mark) : PCall Tryz.prog 66 [.agg (encMk a), .agg (encMk b)] (.b (cnt a b)) := by
 refine PCall.body Tryz.func66 rfl rfl Tryz.ntmps66 rfl rfl ?_
 repeat' (first | refine aoQ rfl rfl rfl (fun hg => by exact std0) (by exact rfl) ?_ | refine sqW ?_ | refine rgK (fun K' hK => ?_) | (refine aoN (hK _ _ ?_); clear hK K') | refine aoE (bxW rfl rfl rfl rfl rfl tI rfl rfl ?_) | refine cdN rfl tI (fun hc => ?_) (fun hc => ?_) | refine skW ?_ | refine rtW ?_)
 · refine ⟨.inr rfl, Ent.b ?_⟩
   unfold cnt
   rw [if_neg (by simpa using hc)]
 · refine ⟨.inr rfl, Ent.b ?_⟩
   unfold cnt
   rw [if_pos (by simpa using hc)]
theorem mea1_spec (w : Rdr) (sec : Int) (r : Rdr) : PCall Tryz.prog 100 [.agg (encRd w), .int sec, .agg (encRd r)] (.b (w == r)) := by
 refine PCall.body Tryz.func100 rfl rfl Tryz.ntmps100 rfl rfl ?_
 repeat' (first | refine aoQ rfl rfl rfl (fun hg => by first | exact std0 | exact PRun.eqN flR rfl rfl nd rfl nd rfl) (by exact rfl) ?_ | refine sqW ?_ | refine rgK (fun K' hK => ?_) | (refine aoN (hK _ _ ?_); clear hK K') | refine aoE (bxW rfl rfl rfl rfl rfl tI rfl rfl ?_) | refine rtW ?_)
 exact ⟨.inr rfl, Ent.b (eqR_eq w r)⟩
theorem mea3_spec (w : Rdr) (sec : Int) (r : Rdr) : PCall Tryz.prog 102 [.agg (encRd w), .int sec, .agg (encRd r)] (.b (w.part == r.part && w.desk == r.desk)) := by
 refine PCall.body Tryz.func102 rfl rfl Tryz.ntmps102 rfl rfl ?_
 repeat' (first | refine aoQ rfl rfl rfl (fun hg => by exact std0) (by exact rfl) ?_ | refine sqW ?_ | refine rgK (fun K' hK => ?_) | (refine aoN (hK _ _ ?_); clear hK K') | refine aoE (bxW rfl rfl rfl rfl rfl tI rfl rfl ?_) | refine rtW ?_)
 exact ⟨.inr rfl, Ent.b rfl⟩
theorem mea5_spec (w : Rdr) (sec : Int) (r : Rdr) : PCall Tryz.prog 104 [.agg (encRd w), .int sec, .agg (encRd r)] (.b (w.part == sec)) := by
 refine PCall.body Tryz.func104 rfl rfl Tryz.ntmps104 rfl rfl ?_
 repeat' (first | refine aoQ rfl rfl rfl (fun hg => by exact std0) (by exact rfl) ?_ | refine sqW ?_ | refine rgK (fun K' hK => ?_) | (refine aoN (hK _ _ ?_); clear hK K') | refine aoE (bxW rfl rfl rfl rfl rfl tI rfl rfl ?_) | refine rtW ?_)
 exact ⟨.inr rfl, Ent.b rfl⟩
theorem mea7_spec (w : Rdr) (sec : Int) (r : Rdr) : PCall Tryz.prog 106 [.agg (encRd w), .int sec, .agg (encRd r)] (.b true) := by
 refine PCall.body Tryz.func106 rfl rfl Tryz.ntmps106 rfl rfl ?_
 repeat' (first | refine aoQ rfl rfl rfl (fun hg => by exact std0) (by exact rfl) ?_ | refine sqW ?_ | refine rgK (fun K' hK => ?_) | (refine aoN (hK _ _ ?_); clear hK K') | refine aoE (bxW rfl rfl rfl rfl rfl tI rfl rfl ?_) | refine rtW ?_)
 exact ⟨.inr rfl, Ent.b rfl⟩
theorem markOk_layer {m : Jo.Mark} (h : markOk m = true) : m.layer = 1 ∨ m.layer = 2 ∨ m.layer = 3 ∨ m.layer = 4 := by
 unfold markOk at h
 simp only [zA0] at h
 have h2 := h.1.1.1.1.1.1.2
 unfold byOk at h2
 by_cases h1 : m.layer = 1
 · exact .inl h1
 by_cases h3 : m.layer = 2
 · exact .inr (.inl h3)
 by_cases h4 : m.layer = 3
 · exact .inr (.inr (.inl h4))
 by_cases h5 : m.layer = 4
 · exact .inr (.inr (.inr h5))
 · rw [if_neg h1, if_neg h3, if_neg h4, if_neg h5] at h2; cases h2
end Go.Proofs.YtficfljjnbnhbaaGreatDoor.Mk
namespace Go.Proofs.YtficfljjnbnhbaaGreatDoor
open Go.Ab
attribute [local irreducible] AWP AOps EStep AQ PStep PRun PCall TCall VCall
theorem r2in_spec (a b c : Int) : PCall Tryz.prog 199 [.int a, .int b, .int c] (.b (inB a b c)) := by
 refine PCall.body Tryz.func199 rfl rfl Tryz.ntmps199 rfl rfl ?_
 repeat' (first | refine aoQ rfl rfl rfl (fun hg => by exact std0) (by exact rfl) ?_ | refine sqW ?_ | refine rgK (fun K' hK => ?_) | (refine aoN (hK _ _ ?_); clear hK K') | refine rtW ?_)
 exact ⟨.inr rfl, Ent.b rfl⟩
theorem r3in_spec (a b c : Int) : PCall Tryz.prog 208 [.int a, .int b, .int c] (.b (inB a b c)) := by
 refine PCall.body Tryz.func208 rfl rfl Tryz.ntmps208 rfl rfl ?_
 repeat' (first | refine aoQ rfl rfl rfl (fun hg => by exact std0) (by exact rfl) ?_ | refine sqW ?_ | refine rgK (fun K' hK => ?_) | (refine aoN (hK _ _ ?_); clear hK K') | refine rtW ?_)
 exact ⟨.inr rfl, Ent.b rfl⟩
theorem r7in_spec (a b c : Int) : PCall Tryz.prog 186 [.int a, .int b, .int c] (.b (inB a b c)) := by
 refine PCall.body Tryz.func186 rfl rfl Tryz.ntmps186 rfl rfl ?_
 repeat' (first | refine aoQ rfl rfl rfl (fun hg => by exact std0) (by exact rfl) ?_ | refine sqW ?_ | refine rgK (fun K' hK => ?_) | (refine aoN (hK _ _ ?_); clear hK K') | refine rtW ?_)
 exact ⟨.inr rfl, Ent.b rfl⟩
theorem r2valid_spec (p : Pitch) : PCall Tryz.prog 183 [.agg (encPi p)] (.b (pitchOk p)) := by
 refine PCall.body Tryz.func183 rfl rfl Tryz.ntmps183 rfl rfl ?_
 repeat' (first | refine aoQ rfl rfl rfl (fun hg => by first | exact std0 | exact pcW (r2in_spec _ _ _) rfl rfl nd rfl nds | exact std1) (by exact rfl) ?_ | refine sqW ?_ | refine rgK (fun K' hK => ?_) | (refine aoN (hK _ _ ?_); clear hK K') | refine aoE (bxW rfl rfl rfl rfl rfl tI rfl rfl ?_) | refine rtW ?_)
 exact ⟨.inr rfl, Ent.b rfl⟩
theorem r2isNote_spec (p : Pitch) : PCall Tryz.prog 185 [.agg (encPi p)] (.b (noteP p)) := by
 refine PCall.body Tryz.func185 rfl rfl Tryz.ntmps185 rfl rfl ?_
 repeat' (first | refine aoQ rfl rfl rfl (fun hg => by first | exact std0 | exact pcW (r2valid_spec p) rfl rfl nd rfl nds | exact pcW (r2in_spec _ _ _) rfl rfl nd rfl nds | exact std1) (by exact rfl) ?_ | refine sqW ?_ | refine rgK (fun K' hK => ?_) | (refine aoN (hK _ _ ?_); clear hK K') | refine aoE (bxW rfl rfl rfl rfl rfl tI rfl rfl ?_) | refine rtW ?_)
 exact ⟨.inr rfl, Ent.b rfl⟩
def natR (s : Int) : Int := if s > 2 then 2 * s - 1 else 2 * s
theorem natural_spec (s : Int) (h : -1000 ≤ s ∧ s ≤ 1000) : PCall Tryz.prog 200 [.int s] (.int (natR s)) := by
 refine PCall.body Tryz.func200 rfl rfl Tryz.ntmps200 rfl rfl ?_
 repeat' (first | refine aoQ rfl rfl rfl (fun hg => by exact std0) (by exact rfl) ?_ | refine sqW ?_ | refine rgK (fun K' hK => ?_) | (refine aoN (hK _ _ ?_); clear hK K') | refine cdN rfl tI (fun hc => ?_) (fun hc => ?_) | refine skW ?_ | refine rtW ?_)
 · exact ⟨.inr rfl, Ent.int (by unfold natR; rw [if_pos hc])⟩
 · exact ⟨.inr rfl, Ent.int (by unfold natR; rw [if_neg (by omega)])⟩
def soundR (p : Pitch) : Int := 12 * p.oct + natR p.step + p.alter
def pitchIn (p : Pitch) : Prop := (0 ≤ p.step ∧ p.step ≤ 6) ∧ (-4 ≤ p.alter ∧ p.alter ≤ 4) ∧ -1000 ≤ p.oct ∧ p.oct ≤ 1000
theorem natR_in {s : Int} (h : -1000 ≤ s ∧ s ≤ 1000) : -2001 ≤ natR s ∧ natR s ≤ 2001 := by unfold natR; split <;> omega
theorem sound_spec (p : Pitch) (h : pitchIn p) : PCall Tryz.prog 184 [.agg (encPi p)] (.int (soundR p)) := by
 obtain ⟨h1, h2, h3⟩ := h
 have hn := natR_in (s := p.step) (by omega)
 have hs := natural_spec p.step (by omega)
 refine PCall.body Tryz.func184 rfl rfl Tryz.ntmps184 rfl rfl ?_
 repeat' (first | refine aoQ rfl rfl rfl (fun hg => by exact std0) (by exact rfl) ?_ | refine sqW ?_ | refine rgK (fun K' hK => ?_) | (refine aoN (hK _ _ ?_); clear hK K') | refine aoE (bxW rfl rfl rfl rfl rfl tI rfl rfl ?_) | refine rtW ?_ | refine dK2 (by decide +kernel) (by kernel_rfl) (by decide +kernel) rfl (fun K' hK => ?_) | (refine aqN (hK _ ?_); clear hK K') | refine aqQ rfl rfl (fun hg => by first | exact std0 | exact pcW (hs) rfl rfl nd rfl nds | exact std1) (by exact rfl) ?_)
 exact ⟨.inr rfl, Ent.int rfl⟩
theorem soundR_num {p : Pitch} (h : pitchOk p = true) : soundR p = (numR2 p).1 := by
 have h1 := pitchOk_iff.1 h
 unfold numR2
 rw [if_pos h]
 show soundR p = pitchNum p
 unfold soundR pitchNum
 have : natR p.step = nat7.getD p.step.toNat 0 := by
  obtain ⟨k, hk⟩ : ∃ k : Nat, p.step = k := ⟨p.step.toNat, by omega⟩
  rw [hk]
  have : k ≤ 6 := by omega
  match k, this with
  | 0, _ | 1, _ | 2, _ | 3, _ | 4, _ | 5, _ | 6, _ => decide
 omega
theorem pitchIn_ok {p : Pitch} (h : pitchOk p = true) : pitchIn p := by
 have h1 := pitchOk_iff.1 h
 unfold pitchIn; omega
theorem r3interval_spec (i : Interval) : PCall Tryz.prog 205 [.agg (encI i)] (.b (intervalOk i)) := by
 refine PCall.body Tryz.func205 rfl rfl Tryz.ntmps205 rfl rfl ?_
 repeat' (first | refine aoQ rfl rfl rfl (fun hg => by first | exact std0 | exact pcW (r3in_spec _ _ _) rfl rfl nd rfl nds | exact std1) (by exact rfl) ?_ | refine sqW ?_ | refine rgK (fun K' hK => ?_) | (refine aoN (hK _ _ ?_); clear hK K') | refine aoE (bxW rfl rfl rfl rfl rfl tI rfl rfl ?_) | refine rtW ?_)
 exact ⟨.inr rfl, Ent.b rfl⟩
theorem r3fifths_spec (i : Interval) : PCall Tryz.prog 198 [.agg (encI i)] (.tup [.int (fifthsR i).1, .int (fifthsR i).2]) := by
 have v := r3interval_spec i
 refine PCall.body Tryz.func198 rfl rfl Tryz.ntmps198 rfl rfl ?_
 by_cases h : intervalOk i = true
 · have h1 := intervalOk_iff.1 h
   repeat' (first | refine aoQ rfl rfl rfl (fun hg => by first | exact std0 | exact pcW (v) rfl rfl nd rfl nds | exact std1) (by exact rfl) ?_ | refine sqW ?_ | refine rgK (fun K' hK => ?_) | (refine aoN (hK _ _ ?_); clear hK K') | refine aoE (bxW rfl rfl rfl rfl rfl tI rfl rfl ?_) | refine cdN rfl tI (fun hc => ?_) (fun hc => ?_) | refine skW ?_ | refine rtW ?_)
   · exfalso; simp [h] at hc
   · refine ⟨.inr rfl, Ent.of ?_⟩
     rw [show fifthsR i = (7 * i.semi - 12 * i.steps, 0) from by unfold fifthsR; rw [if_pos h]]; rfl
 · repeat' (first | refine aoQ rfl rfl rfl (fun hg => by first | exact std0 | exact pcW (v) rfl rfl nd rfl nds | exact std1) (by exact rfl) ?_ | refine sqW ?_ | refine rgK (fun K' hK => ?_) | (refine aoN (hK _ _ ?_); clear hK K') | refine aoE (bxW rfl rfl rfl rfl rfl tI rfl rfl ?_) | refine cdN rfl tI (fun hc => ?_) (fun hc => ?_) | refine skW ?_ | refine rtW ?_)
   · refine ⟨.inr rfl, Ent.of ?_⟩
     rw [show fifthsR i = (0, 1) from by unfold fifthsR; rw [if_neg h]]; rfl
   all_goals (exfalso; simp [h] at hc)
theorem gcd6_nat (a b : Nat) (ha : a ≤ 1000000000) (hb : b ≤ 1000000000) : PCall Tryz.prog 175 [.int a, .int b] (.int (Nat.gcd a b)) := by
 refine PCall.body Tryz.func175 rfl rfl Tryz.ntmps175 rfl rfl ?_
 repeat' (first | refine aoQ rfl rfl rfl (fun hg => by exact std0) (by exact rfl) ?_ | refine sqW ?_ | refine rgK (fun K' hK => ?_) | (refine aoN (hK _ _ ?_); clear hK K') | refine blK ?_)
 refine lpW (ι := Nat × Nat) (fun i => [(0, .int i.1), (1, .int i.2)]) (fun _ => []) (fun i => Nat.gcd i.1 i.2 = Nat.gcd a b ∧ i.1 ≤ 1000000000 ∧ i.2 ≤ 1000000000) (fun i => i.2) (a, b) ⟨rfl, ha, hb⟩ ⟨rfl, rfl, tI⟩ rfl ?_
 rintro ⟨x, y⟩ ⟨g1, g2, g3⟩
 dsimp only at g1 g2 g3 ⊢
 by_cases h0 : y = 0
 · subst h0
   repeat' (first | refine aoQ rfl rfl rfl (fun hg => by exact std0) (by exact rfl) ?_ | refine sqW ?_ | refine rgK (fun K' hK => ?_) | (refine aoN (hK _ _ ?_); clear hK K') | refine cdN rfl tI (fun hc => ?_) (fun hc => ?_) | refine blK ?_ | refine exW ?_ | refine skW ?_ | refine rtW ?_)
   · exfalso; simp at hc
   · exact ⟨.inr rfl, Ent.int (by rw [← g1]; simp)⟩
 · have hm : x % y < y := Nat.mod_lt _ (by omega)
   repeat' (first | refine aoQ rfl rfl rfl (fun hg => by exact std0) (by exact rfl) ?_ | refine sqW ?_ | refine rgK (fun K' hK => ?_) | (refine aoN (hK _ _ ?_); clear hK K') | refine cdN rfl tI (fun hc => ?_) (fun hc => ?_) | refine blK ?_ | refine exW ?_ | refine skW ?_ | refine rtW ?_)
   · refine ⟨(y, x % y), ⟨?_, g3, by omega⟩, hm, ⟨rfl, rfl, tI⟩, rfl⟩
     rw [← g1, Nat.gcd_comm x y, Nat.gcd_rec y x, Nat.gcd_comm]
   · exfalso; simp at hc; omega
theorem gcd6_spec (a b : Int) (h : (0 ≤ a ∧ a ≤ 1000000000) ∧ 0 ≤ b ∧ b ≤ 1000000000) : PCall Tryz.prog 175 [.int a, .int b] (.int (Int.gcd a b)) := by
 have h1 := gcd6_nat a.toNat b.toNat (by omega) (by omega)
 have ea : ((a.toNat : Nat) : Int) = a := by omega
 have eb : ((b.toNat : Nat) : Int) = b := by omega
 rw [ea, eb] at h1
 have : Nat.gcd a.toNat b.toNat = Int.gcd a b := by
  conv => rhs; rw [← ea, ← eb, Int.gcd_natCast_natCast]
 rw [this] at h1; exact h1
def ticksX (r : Rat) : Int := if durOk r then ticksV r else -1
theorem div1680 {d : Int} (h1 : 1 ≤ d) (h : Int.tmod 1680 d = 0) : d ≤ 1680 := Int.le_of_dvd (by decide) (Int.dvd_of_tmod_eq_zero h)
def tickBad (r : Rat) : Bool := ((decide (r.d < 1) || Int.tmod 1680 r.d != 0) || decide (r.n < 0)) || decide (r.n > 1000000000)
theorem tickGood {r : Rat} (h : (tickBad r == false) = true) : (0 ≤ r.n ∧ r.n ≤ 1000000000) ∧ 0 ≤ r.d ∧ r.d ≤ 1000000000 := by
 simp [tickBad] at h
 have := div1680 (d := r.d) (by omega) h.1.1.2
 omega
theorem durOk_tick (r : Rat) : durOk r = !(tickBad r || ((Int.gcd r.n r.d : Nat) : Int) != 1) := by
 rw [zAs, durOk_iff, ratOk_iff]
 simp only [tickBad, zAm, zAh, dEf, bne_eq_false_iff_eq]
 constructor
 · rintro ⟨⟨h1, h2, h3, h4, h5⟩, h6, h7⟩
   exact ⟨⟨⟨⟨by omega, h7⟩, by omega⟩, by omega⟩, by omega⟩
 · rintro ⟨⟨⟨⟨h1, h7⟩, h2⟩, h3⟩, h4⟩
   have := div1680 (d := r.d) (by omega) h7
   exact ⟨⟨by omega, by omega, by omega, by omega, by omega⟩, by omega, h7⟩
theorem ticks6_spec (r : Rat) : PCall Tryz.prog 142 [.agg (encR r)] (.int (ticksX r)) := by
 by_cases h : durOk r = true
 · have h1 := durOk_iff.1 h
   have h2 := ratOk_iff.1 h1.1
   have h3 := tdiv1680 h1.1
   have h4 := mul_in (x := r.n) (y := Int.tdiv 1680 r.d) (A := 1000000000) (B := 1680) (by omega) h3
   refine PCall.body Tryz.func142 rfl rfl Tryz.ntmps142 rfl rfl ?_
   repeat' (first | refine aoQ rfl rfl rfl (fun hg => by first | exact std0 | exact pcW (gcd6_spec r.n r.d ⟨by omega, by omega⟩) rfl rfl nd rfl nds | exact std1) (by exact rfl) ?_ | refine sqW ?_ | refine rgK (fun K' hK => ?_) | (refine aoN (hK _ _ ?_); clear hK K') | refine aoE (bxW rfl rfl rfl rfl rfl tI rfl rfl ?_) | refine cdN rfl tI (fun hc => ?_) (fun hc => ?_) | refine skW ?_ | refine rtW ?_ | refine dK2 (by decide +kernel) (by kernel_rfl) (by decide +kernel) rfl (fun K' hK => ?_) | (refine aqN (hK _ ?_); clear hK K') | refine aqQ rfl rfl (fun hg => by exact std0) (by exact rfl) ?_)
   · exfalso
     have e := durOk_tick r
     rw [h] at e
     have : (tickBad r || ((Int.gcd r.n r.d : Nat) : Int) != 1) = true := hc
     rw [this] at e; simp at e
   · exact ⟨.inr rfl, Ent.int (by unfold ticksX; rw [if_pos h]; rfl)⟩
 · by_cases hd : r.d < 1
   · have hd' : ∀ {b : Bool}, ((decide (r.d < 1) || b) == false) = true → False := fun h => by simp [hd] at h
     refine PCall.body Tryz.func142 rfl rfl Tryz.ntmps142 rfl rfl ?_
     repeat' (first | refine aoQ rfl rfl rfl (fun hg => by first | exact std0 | exact pcW (gcd6_spec r.n r.d (tickGood hg)) rfl rfl nd rfl nds | exact std1) (by exact rfl) ?_ | refine sqW ?_ | refine rgK (fun K' hK => ?_) | (refine aoN (hK _ _ ?_); clear hK K') | refine aoE (bxW rfl rfl rfl rfl rfl tI rfl rfl ?_) | refine cdN rfl tI (fun hc => ?_) (fun hc => ?_) | refine skW ?_ | refine rtW ?_)
     · exact ⟨.inr rfl, Ent.int (by unfold ticksX; rw [if_neg h])⟩
     · exfalso
       simp [hd] at hc
   · refine PCall.body Tryz.func142 rfl rfl Tryz.ntmps142 rfl rfl ?_
     repeat' (first | refine aoQ rfl rfl rfl (fun hg => by first | exact std0 | exact pcW (gcd6_spec r.n r.d (tickGood hg)) rfl rfl nd rfl nds | exact std1) (by exact rfl) ?_ | refine sqW ?_ | refine rgK (fun K' hK => ?_) | (refine aoN (hK _ _ ?_); clear hK K') | refine aoE (bxW rfl rfl rfl rfl rfl tI rfl rfl ?_) | refine cdN rfl tI (fun hc => ?_) (fun hc => ?_) | refine skW ?_ | refine rtW ?_)
     · exact ⟨.inr rfl, Ent.int (by unfold ticksX; rw [if_neg h])⟩
     · exfalso
       have e := durOk_tick r
       have : (tickBad r || ((Int.gcd r.n r.d : Nat) : Int) != 1) = false := hc
       rw [this] at e
       exact h (by simpa using e)
end Go.Proofs.YtficfljjnbnhbaaGreatDoor
