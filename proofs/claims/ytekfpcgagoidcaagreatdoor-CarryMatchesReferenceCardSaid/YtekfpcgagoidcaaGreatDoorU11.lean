/- DERIVED: THE SHELF's CONTRACTS AT THIS DUMP, IN PLAIN WORDS (tools/lay-plain.mjs out of 'YtekfpcgagoidcaaGreatDoorShelf.lean', which tools/lay-shelf.mjs wrote): THE SAME DECLARATIONS UNDER THE SAME NAMES: 'import', 'namespace', 'open', 'def', 'theorem' AND NOTHING ELSE: no command of the shelf's: FOR A HAND-IN. Each laying: the table of numbers ('.._ren') and one theorem, a field a fact of the dump's own or the kernel's comparison; each contract: ONE APPLICATION. Contracts: slices.Clone of notes; notes.sorted.  Contracts by content: notes.sorted, notes.Sort.  Contracts by content: slices.Equal No statement is proved here. -/
import Derived.Shelf.SlSortCmp.WholeK
import Derived.Test.YtekfpcgagoidcaaGreatDoorChecked
import Derived.Test.YtekfpcgagoidcaaGreatDoorU9
import Derived.Test.YtekfpcgagoidcaaGreatDoorU10
set_option linter.unusedVariables false
set_option linter.unusedSimpArgs false
/-
 DERIVED: THE SHELF's CONTRACTS AT THIS DUMP, IN PLAIN WORDS (tools/lay-plain.mjs out of 'YtekfpcgagoidcaaGreatDoorShelf.lean', which tools/lay-shelf.mjs wrote): THE SAME DECLARATIONS UNDER THE SAME NAMES: 'import', 'namespace', 'open', 'def', 'theorem' AND NOTHING ELSE: no command of the shelf's: FOR A HAND-IN. Each laying: the table of numbers ('.._ren') and one theorem, a field a fact of the dump's own or the kernel's comparison; each contract: ONE APPLICATION.
-/
namespace Go.Proofs
open Go.Shelf
def Tryz.sortNote_ren : Go.Shelf.Ren := ⟨fun | 6 => 113 | 15 => 150 | 14 => 149 | 28 => 180 | 29 => 181 | 20 => 172 | 21 => 173 | 22 => 174 | 23 => 175 | 24 => 176 | 25 => 177 | 26 => 178 | 27 => 179 | 46 => 189 | 47 => 190 | 48 => 191 | 49 => 192 | 50 => 193 | 57 => 198 | n => n, fun | 22 => 24 | 24 => 56 | 25 => 165 | 3 => 3 | 39 => 190 | 0 => 0 | 53 => 208 | 55 => 210 | 4 => 4 | 46 => 202 | 45 => 201 | 50 => 109 | 5 => 5 | 9 => 9 | 66 => 216 | 70 => 220 | 76 => 223 | 77 => 224 | n => n, fun | n => n⟩
theorem Tryz.sortNote : Go.Proofs.SlLaysF0.n6 Tryz.prog Tryz.sortNote_ren := {
 mixed := by kernel_rfl
 f6 := ⟨Tryz.f113.name, by decide, Tryz.func113.trans (congrArg some (by kernel_rfl))⟩
 f14 := ⟨Tryz.f149.name, by decide, Tryz.func149.trans (congrArg some (by kernel_rfl))⟩
 f15 := Tryz.func150.trans (congrArg some (by kernel_rfl))
 f20 := ⟨Tryz.f172.name, by decide, Tryz.func172.trans (congrArg some (by kernel_rfl))⟩
 f21 := ⟨Tryz.f173.name, by decide, Tryz.func173.trans (congrArg some (by kernel_rfl))⟩
 f22 := ⟨Tryz.f174.name, by decide, Tryz.func174.trans (congrArg some (by kernel_rfl))⟩
 f23 := ⟨Tryz.f175.name, by decide, Tryz.func175.trans (congrArg some (by kernel_rfl))⟩
 f24 := ⟨Tryz.f176.name, by decide, Tryz.func176.trans (congrArg some (by kernel_rfl))⟩
 f25 := ⟨Tryz.f177.name, by decide, Tryz.func177.trans (congrArg some (by kernel_rfl))⟩
 f26 := ⟨Tryz.f178.name, by decide, Tryz.func178.trans (congrArg some (by kernel_rfl))⟩
 f27 := ⟨Tryz.f179.name, by decide, Tryz.func179.trans (congrArg some (by kernel_rfl))⟩
 f28 := Tryz.func180.trans (congrArg some (by kernel_rfl))
 f29 := Tryz.func181.trans (congrArg some (by kernel_rfl))
 f46 := ⟨Tryz.f189.name, by decide, Tryz.func189.trans (congrArg some (by kernel_rfl))⟩
 f47 := Tryz.func190.trans (congrArg some (by kernel_rfl))
 f48 := Tryz.func191.trans (congrArg some (by kernel_rfl))
 f49 := ⟨Tryz.f192.name, by decide, Tryz.func192.trans (congrArg some (by kernel_rfl))⟩
 f50 := ⟨Tryz.f193.name, by decide, Tryz.func193.trans (congrArg some (by kernel_rfl))⟩
 f57 := ⟨Tryz.f198.name, by decide, Tryz.func198.trans (congrArg some (by kernel_rfl))⟩
 t0 := Tryz.underlying0
 a0 := Tryz.isAgg0
 z0 := Tryz.sizeOf0
 v0 := Tryz.zeroValue0
 t3 := Tryz.underlying3
 a3 := Tryz.isAgg3
 z3 := Tryz.sizeOf3
 v3 := Tryz.zeroValue3
 t4 := Tryz.underlying4
 a4 := Tryz.isAgg4
 z4 := Tryz.sizeOf4
 v4 := Tryz.zeroValue4
 t5 := Tryz.underlying5
 a5 := Tryz.isAgg5
 z5 := Tryz.sizeOf5
 v5 := Tryz.zeroValue5
 t9 := Tryz.underlying9
 a9 := Tryz.isAgg9
 z9 := Tryz.sizeOf9
 v9 := Tryz.zeroValue9
 t22 := Tryz.underlying24
 a22 := Tryz.isAgg24
 z22 := Tryz.sizeOf24
 v22 := Tryz.zeroValue24
 t25 := Tryz.underlying165
 a25 := Tryz.isAgg165
 z25 := Tryz.sizeOf165
 v25 := Tryz.zeroValue165
 t39 := Tryz.underlying190
 a39 := Tryz.isAgg190
 z39 := Tryz.sizeOf190
 v39 := Tryz.zeroValue190
 t45 := Tryz.underlying201
 a45 := Tryz.isAgg201
 z45 := Tryz.sizeOf201
 v45 := Tryz.zeroValue201
 t46 := Tryz.underlying202
 a46 := Tryz.isAgg202
 z46 := Tryz.sizeOf202
 v46 := Tryz.zeroValue202
 t50 := Tryz.underlying109
 a50 := Tryz.isAgg109
 z50 := Tryz.sizeOf109
 v50 := Tryz.zeroValue109
 t53 := Tryz.underlying208
 a53 := Tryz.isAgg208
 z53 := Tryz.sizeOf208
 v53 := Tryz.zeroValue208
 t55 := Tryz.underlying210
 a55 := Tryz.isAgg210
 z55 := Tryz.sizeOf210
 v55 := Tryz.zeroValue210
 t66 := Tryz.underlying216
 a66 := Tryz.isAgg216
 z66 := Tryz.sizeOf216
 v66 := Tryz.zeroValue216
 t70 := Tryz.underlying220
 a70 := Tryz.isAgg220
 z70 := Tryz.sizeOf220
 v70 := Tryz.zeroValue220
 t76 := Tryz.underlying223
 a76 := Tryz.isAgg223
 z76 := Tryz.sizeOf223
 v76 := Tryz.zeroValue223
 t77 := Tryz.underlying224
 a77 := Tryz.isAgg224
 z77 := Tryz.sizeOf224
 v77 := Tryz.zeroValue224 }
end Go.Proofs
namespace Go.Proofs.YtekfpcgagoidcaaGreatDoor
open Go.Ab Go.Sort
attribute [local irreducible] AWP AOps EStep AQ PStep PRun PCall TCall VCall
theorem one_encN (l : List Note) : ∀ x ∈ l.map encN, x.all oneAV = true := fun x hx => by
 obtain ⟨c, _, rfl⟩ := zAu.1 hx; rfl
theorem clone_T (l : List Note) (hl : l.length ≤ 1000000000) (u : AV) (hu : okObj 1 (.var [u]) = true) (hu2 : okObj 2 (.var [u]) = true) : TCall Tryz.prog 170 [.sl 12 (l.map encN) .no] [.var [u]]
 (fun r s => (l = [] ∧ r = .nils ∧ s = [.var [u]]) ∨ (r = .sla 1 12 0 l.length 0 ∧ s = [.var [u], .arr 12 0 (l.map encN)])) := by
 have hll : (l.map encN).length = l.length := by simp
 refine TCall.body Tryz.func170 rfl rfl Tryz.ntmps170 rfl rfl ?_
 repeat' (first | refine aoQ rfl rfl rfl (fun hg => by exact std0) (by exact rfl) ?_ | refine sqW ?_ | refine rgK (fun K' hK => ?_) | (refine aoN (hK _ _ ?_); clear hK K') | refine aoE (EStep.nilSl tabOk rfl rfl rfl rfl rfl tI rfl ?_))
 intro b hb
 repeat' (first | refine aoQ rfl rfl rfl (fun hg => by first | exact PRun.buildSl0 tabOk rfl rfl | exact std0) (by exact rfl) ?_ | refine sqW ?_ | refine rgK (fun K' hK => ?_) | (refine aoN (hK _ _ ?_); clear hK K') | refine aoE (EStep.appendArrF tabOk rfl rfl rfl rfl (Rd.w rfl tI) (Rd.w rfl tI) (.sl rfl (one_encN _)) (LOk.of (tabOk.get rfl)) (LOk.of (tabOk.get rfl)) rfl rfl (by simp only [hll]; omega) (by omega) ?_) | refine cdN rfl tI (fun hc => ?_) (fun hc => ?_) | refine skW ?_ | refine rtW ?_)
 · exact ⟨.inr rfl, .nils, [.var [u]], .inl ⟨by simpa using hb hc, rfl, rfl⟩, rfl, nLr _, by simpa using hu, rfl, rfl⟩
 · refine ⟨.inr rfl, .sla 1 12 0 (l.map encN).length 0, [.var [u], .arr 12 0 (l.map encN)], .inr ⟨by rw [hll], rfl⟩, rfl, by simp, ?_, rfl, rfl⟩
   simp only [zBg, zBl, zA8, zAg, zBp, Nat.reduceAdd, hu2, zC6, Bool.and_true]
   simp [okObj, encN, okRef]
instance (n : Note) : Decidable (noteIn n) := by unfold noteIn; infer_instance
def fixN (n : Note) : Note := if noteIn n then n else ⟨1, 1, 0, 0, 0, ⟨0, 1⟩, ⟨0, 1⟩, ⟨0, 0, 0⟩⟩
theorem fixN_in (n : Note) : noteIn (fixN n) := by
 unfold fixN; split
 · assumption
 · decide
theorem fixN_eq {n : Note} (h : noteIn n) : fixN n = n := if_pos h
def encV (n : Note) : List Value := let m := fixN n; [.int .i64 m.id, .int .i64 m.part, .int .i64 m.bar, .int .i64 m.voice, .int .i64 m.ossia, .int .i64 m.start.n, .int .i64 m.start.d, .int .i64 m.len.n, .int .i64 m.len.d, .int .i64 m.pitch.step, .int .i64 m.pitch.alter, .int .i64 m.pitch.oct]
theorem encV_enc (n : Note) : (encV n).map AV.prim = encN (fixN n) := rfl
def sortN (al : List (Int × Int)) (l : List Note) : List Note := sortL (fun x y => cmpN al (fixN x) (fixN y)) l
theorem sortN_len (al : List (Int × Int)) (l : List Note) : (sortN al l).length = l.length := by
 have := (sortL_spec _ (swoN al fixN) l).1.1
 simpa [sortN] using this
theorem sortN_perm (al : List (Int × Int)) (l : List Note) : (sortN al l).Perm l := by
 have h := (sortL_spec _ (swoN al fixN) l).1.2.2
 have hl := sortN_len al l
 rw [← hl] at h
 unfold sortN at h hl ⊢
 simp only [zCd, List.extract_toArray, List.extract_eq_take_drop, Nat.sub_zero, zD9] at h
 rw [zAt (nLr _), hl, zAt (nLr _)] at h
 exact h
theorem sortN_enc (al : List (Int × Int)) {l : List Note} (h : ∀ n ∈ l, noteIn n) : (sortN al l).map (fun x => (encV x).map AV.prim) = (sortN al l).map encN := by
 refine zCu fun x hx => ?_
 rw [encV_enc, fixN_eq (h x ((sortN_perm al l).mem_iff.1 hx))]
theorem enc_fix {l : List Note} (h : ∀ n ∈ l, noteIn n) : l.map (fun x => (encV x).map AV.prim) = l.map encN := by
 refine zCu fun x hx => ?_
 rw [encV_enc, fixN_eq (h x hx)]
theorem pureN (l : List Note) : ∀ e ∈ l.map encN, ∀ a ∈ e, ∀ M B x, VRel M B a x → VRel M [] a x := fun e he a ha M B x hx => by
 obtain ⟨n, _, rfl⟩ := zAu.1 he
 simp only [encN, zB6, zCa, or_false] at ha
 rcases ha with rfl | rfl | rfl | rfl | rfl | rfl | rfl | rfl | rfl | rfl | rfl | rfl <;> (rw [VRel.prim_eq hx]; exact .prim _)
theorem fnOk_sort : FnOk Tryz.prog 113 := ⟨_, Tryz.func113, rfl, rfl⟩
theorem fnOk_cmp : FnOk Tryz.prog 171 := ⟨_, Tryz.func171, rfl, rfl⟩
theorem sortT (al : List (Int × Int)) (hal : ∀ k i, lk al k = some i → 0 ≤ i ∧ i < 4611686018427387904) (l : List Note) (hl : l.length ≤ 1000000000) (hin : ∀ n ∈ l, noteIn n) :
 TCall Tryz.prog 113 [.sla 1 12 0 l.length 0, .fn (.func 171) [] [.ptr 0 0]] [.var [.imap (encM ekI AV.int al)], .arr 12 0 (l.map encN)]
  (fun r s => r = .tup [] ∧ s = [.var [.imap (encM ekI AV.int al)], .arr 12 0 ((sortN al l).map encN)]) := by
 have h := TCall.sortA (P := Tryz.prog) (ρ := Tryz.sortNote_ren) Tryz.sortNote (sz := 12) Tryz.isAgg56 Tryz.sizeOf56 encV (fun _ => rfl) (fun x v hv => by
  simp only [encV, zB6, zCa, or_false] at hv
  rcases hv with rfl | rfl | rfl | rfl | rfl | rfl | rfl | rfl | rfl | rfl | rfl | rfl <;> rfl)
  (fun x y => cmpN al (fixN x) (fixN y)) (swoN al fixN) (g := 171) (caps := [.ptr 0 0]) (σ := [.var [.imap (encM ekI AV.int al)], .arr 12 0 (l.map encN)]) fnOk_sort fnOk_cmp
  (fun x y => cmpN_spec al hal (fixN x) (fixN y) (fixN_in x) (fixN_in y)) (l := 1) (ver := 0) (xs := l) (by rw [enc_fix hin]; rfl) (by omega)
 refine TCall.mono h ?_
 rintro r s ⟨h1, h2⟩
 refine ⟨h1, ?_⟩
 rw [h2]
 show [_, AObj.arr 12 0 ((sortN al l).map fun x => (encV x).map AV.prim)] = _
 rw [sortN_enc al hin]
theorem idx_small (bars : List Bar) (hb : bars.length ≤ 1000000000) : ∀ k i, lk (idxAL bars) k = some i → 0 ≤ i ∧ i < 4611686018427387904 := fun k i h => by
 rw [idxAL_eq] at h
 obtain ⟨j, h1, h2, _⟩ := lk_idx bars k _ i h
 omega
theorem sorted_spec (bars : List Bar) (l : List Note) (hb : bars.length ≤ 1000000000) (hl : l.length ≤ 1000000000) (hin : ∀ n ∈ l, noteIn n) :
 PCall Tryz.prog 148 [.sl 4 (bars.map encB) .no, .sl 12 (l.map encN) .no] (.sl 12 ((sortN (idxAL bars) l).map encN) .no) := by
 have hi := indexes_spec bars (by omega)
 have hc := TCall.val (first := []) (caps := []) (avs := [.sl 12 (l.map encN) .no]) (clone_T l hl (.imap (encM ekI AV.int (idxAL bars))) (by simp [okObj, okRef]) (by simp [okObj, okRef]))
 have hs := TCall.val (first := []) (caps := []) (avs := [.sla 1 12 0 l.length 0, .fn (.func 171) [] [.ptr 0 0]]) (sortT (idxAL bars) (idx_small bars hb) l hl hin)
 have h0 := fun u => PCall.sort0 (P := Tryz.prog) (ρ := Tryz.sortNote_ren) Tryz.sortNote fnOk_sort u
 refine PCall.body Tryz.func148 rfl rfl Tryz.ntmps148 rfl rfl ?_
 repeat' (first | refine aoQ rfl rfl rfl (fun hg => by first | exact std0 | exact pcW (hi) rfl rfl nd rfl nds) (by exact rfl) ?_ | refine sqW ?_ | refine rgK (fun K' hK => ?_) | (refine aoN (hK _ _ ?_); clear hK K') | refine aoE (stW tabOk rfl rfl rfl tI rfl rfl tI rfl rfl rfl rfl rfl rfl rfl ?_) | refine aoE (alW tabOk rfl rfl rfl rfl rfl rfl ?_) | refine aoE (scT (hc) rfl rfl rfl rfl rfl nd rfl rfl nds ?_))
 rintro r s (⟨h1, rfl, rfl⟩ | ⟨rfl, rfl⟩)
 · subst h1
   repeat' (first | refine aoQ rfl rfl rfl (fun hg => by first | exact std0 | exact pcW (h0 _) rfl rfl nd rfl nds) (by exact rfl) ?_ | refine sqW ?_ | refine rgK (fun K' hK => ?_) | (refine aoN (hK _ _ ?_); clear hK K') | refine rtW ?_)
   refine ⟨.inr rfl, ?_⟩
   rw [zB0 (sortN_len (idxAL bars) [])]
   exact Ent.nil
 · repeat' (first | refine aoQ rfl rfl rfl (fun hg => by exact std0) (by exact rfl) ?_ | refine sqW ?_ | refine rgK (fun K' hK => ?_) | (refine aoN (hK _ _ ?_); clear hK K') | refine aoE (scT (hs) rfl rfl rfl rfl rfl nd rfl rfl nds ?_))
   rintro r s ⟨rfl, rfl⟩
   repeat' (first | refine aoQ rfl rfl rfl (fun hg => by exact std0) (by exact rfl) ?_ | refine sqW ?_ | refine rgK (fun K' hK => ?_) | (refine aoN (hK _ _ ?_); clear hK K'))
   refine AWP.freezeA (d := 4) (l := 1) (sz := 12) (ver := 0) (es := (sortN (idxAL bars) l).map encN) (by show AV.sla 1 12 0 l.length 0 = _; rw [lLm, sortN_len]) rfl (pureN _) ?_
   refine rtW ⟨.inr rfl, ?_⟩
   exact fun _ _ h => h
theorem notesOk_in {bars : List Bar} {l : List Note} (h : notesOk bars l = true) : ∀ n ∈ l, noteIn n := fun n hn => by
 unfold notesOk at h
 simp only [zA0, zA7] at h
 have h1 := h.1.2 n hn
 have hf : noteForm n = true := by
  unfold noteOk at h1
  split at h1
  · unfold nformed at h1; simp only [zA0] at h1; exact h1.2
  · cases h1
 unfold noteForm at hf
 simp only [zA0, inB, dEt] at hf
 unfold noteIn
 omega
def sortR (bars : List Bar) (l : List Note) : List Note × Int := if notesOk bars l then (sortN (idxAL bars) l, 0) else ([], 1)
theorem Sort_spec (bars : List Bar) (l : List Note) (hb : bars.length ≤ 1000000000) (hl : l.length ≤ 1000000000) :
 PCall Tryz.prog 112 [.sl 4 (bars.map encB) .no, .sl 12 (l.map encN) .no] (.tup [.sl 12 ((sortR bars l).1.map encN) .no, .int (sortR bars l).2]) := by
 have v := nvalid_spec bars l (by omega) (by omega)
 refine PCall.body Tryz.func112 rfl rfl Tryz.ntmps112 rfl rfl ?_
 by_cases h : notesOk bars l = true
 · have w := sorted_spec bars l hb hl (notesOk_in h)
   repeat' (first | refine aoQ rfl rfl rfl (fun hg => by first | exact std0 | exact pcW (v) rfl rfl nd rfl nds | exact pcW (w) rfl rfl nd rfl nds) (by exact rfl) ?_ | refine sqW ?_ | refine rgK (fun K' hK => ?_) | (refine aoN (hK _ _ ?_); clear hK K') | refine cdN rfl tI (fun hc => ?_) (fun hc => ?_) | refine skW ?_ | refine rtW ?_)
   · exfalso; simp [h] at hc
   · refine ⟨.inr rfl, Ent.of ?_⟩
     rw [show sortR bars l = (sortN (idxAL bars) l, 0) from by unfold sortR; rw [if_pos h]]; rfl
 · repeat' (first | refine aoQ rfl rfl rfl (fun hg => by first | exact std0 | exact pcW (v) rfl rfl nd rfl nds) (by exact rfl) ?_ | refine sqW ?_ | refine rgK (fun K' hK => ?_) | (refine aoN (hK _ _ ?_); clear hK K') | refine cdN rfl tI (fun hc => ?_) (fun hc => ?_) | refine skW ?_ | refine rtW ?_)
   · refine ⟨.inr rfl, ?_⟩
     rw [show sortR bars l = ([], 1) from by unfold sortR; rw [if_neg h]]
     exact Ent.tup2 Ent.nil (Ent.rfl' _)
   · exfalso; simp [h] at hc
end Go.Proofs.YtekfpcgagoidcaaGreatDoor
namespace Go.Proofs.YtekfpcgagoidcaaGreatDoor
open Go.Ab
attribute [local irreducible] AWP AOps EStep AQ PStep PRun PCall TCall VCall
theorem list_ne_len {α : Type} [BEq α] [LawfulBEq α] {a b : List α} (h : a.length ≠ b.length) : (a == b) = false := by
 cases hh : a == b with
 | false => rfl
 | true => exact absurd (congrArg List.length (eq_of_beq hh)) h
theorem list_ne_at {α : Type} [BEq α] [LawfulBEq α] [Inhabited α] {a b : List α} {k : Nat} (h : a.getD k default ≠ b.getD k default) : (a == b) = false := by
 cases hh : a == b with
 | false => rfl
 | true => exact absurd (by rw [eq_of_beq hh]) h
theorem list_eq_all {α : Type} [BEq α] [LawfulBEq α] [Inhabited α] {a b : List α} (hl : a.length = b.length) (h : ∀ j, j < a.length → a.getD j default = b.getD j default) : (a == b) = true := by
 have : a = b := List.ext_getElem hl fun i h1 h2 => by
  have := h i h1
  simpa [List.getD, h1, h2] using this
 rw [this]; simp
theorem flN : flatN Tryz.prog 56 = some [.int .i64, .int .i64, .int .i64, .int .i64, .int .i64, .int .i64, .int .i64, .int .i64, .int .i64, .int .i64, .int .i64, .int .i64] := by kernel_rfl
def eqNo (a b : Note) : Bool := a.id == b.id && (a.part == b.part && (a.bar == b.bar && (a.voice == b.voice && (a.ossia == b.ossia && (a.start.n == b.start.n && (a.start.d == b.start.d && (a.len.n == b.len.n && (a.len.d == b.len.d && (a.pitch.step == b.pitch.step && (a.pitch.alter == b.pitch.alter && (a.pitch.oct == b.pitch.oct && true)))))))))))
theorem eqNo_eq (a b : Note) : eqNo a b = (a == b) := by
 unfold eqNo
 rw [zB4]
 obtain ⟨a1, a2, a3, a4, a5, ⟨a6, a7⟩, ⟨a8, a9⟩, ⟨a10, a11, a12⟩⟩ := a
 obtain ⟨b1, b2, b3, b4, b5, ⟨b6, b7⟩, ⟨b8, b9⟩, ⟨b10, b11, b12⟩⟩ := b
 simp [and_assoc]
theorem equalN_spec (a b : List Note) (ha : a.length ≤ 9223372036854775807) (hb : b.length ≤ 9223372036854775807) : PCall Tryz.prog 84 [.sl 12 (a.map encN) .no, .sl 12 (b.map encN) .no] (.b (a == b)) := by
 refine PCall.body Tryz.func84 rfl rfl Tryz.ntmps84 rfl rfl ?_
 repeat' (first | refine aoQ rfl rfl rfl (fun hg => by first | exact std0 | exact std1) (by exact rfl) ?_ | refine sqW ?_ | refine rgK (fun K' hK => ?_) | (refine aoN (hK _ _ ?_); clear hK K') | refine cdN rfl tI (fun hc => ?_) (fun hc => ?_) | refine blK ?_ | refine skW ?_ | refine rtW ?_)
 · refine ⟨.inr rfl, Ent.b (list_ne_len ?_).symm⟩
   simp only [zA2, zAi, zA0, zA5, zAf, dEt, dEf, zAh, zAe, beq_iff_eq, beq_eq_false_iff_ne, bne_iff_ne, bne_eq_false_iff_eq, gt_iff_lt, ge_iff_le, ne_eq] at hc; omega
 have hlen : a.length = b.length := by simp only [zA2, zAi, zA0, zA5, zAf, dEt, dEf, zAh, zAe, beq_iff_eq, beq_eq_false_iff_ne, bne_iff_ne, bne_eq_false_iff_eq, gt_iff_lt, ge_iff_le, ne_eq] at hc; omega
 refine lpW (ι := Nat) (fun k => [(0, .sl 12 (a.map encN) .no), (1, .sl 12 (b.map encN) .no), (12, .int a.length), (13, .int k)]) (fun _ => []) (fun k => k ≤ a.length ∧ ∀ j, j < k → a.getD j default = b.getD j default) (fun k => a.length - k) 0 ⟨nZl _, fun j h => absurd h (by omega)⟩ ⟨rfl, rfl, rfl, rfl, tI⟩ rfl ?_
 rintro k ⟨hk, hall⟩
 by_cases hlt : k < a.length
 · repeat' (first | refine aoQ rfl rfl rfl (fun hg => by exact std0) (by exact rfl) ?_ | refine sqW ?_ | refine rgK (fun K' hK => ?_) | (refine aoN (hK _ _ ?_); clear hK K') | refine cdN rfl tI (fun hc => ?_) (fun hc => ?_) | refine blK ?_ | refine exW ?_ | refine skW ?_ | refine rtW ?_ | refine dK2 (by decide +kernel) (by kernel_rfl) (by decide +kernel) rfl (fun K' hK => ?_) | (refine aqN (hK _ ?_); clear hK K') | refine aqQ rfl rfl (fun hg => by first | exact std0 | exact PRun.neN flN rfl rfl nd rfl nd rfl | exact std1) (by exact rfl) ?_)
   · refine ⟨.inr rfl, Ent.b (list_ne_at (k := k) ?_).symm⟩
     have h1 : (!(eqNo (a.getD k default) (b.getD k default))) = true := hc
     rw [eqNo_eq] at h1
     simpa using h1
   · refine ⟨k + 1, ⟨by omega, fun j hj => lt_succ_cases hall ?_ hj⟩, by omega, ⟨rfl, rfl, rfl, rfl, tI⟩, rfl⟩
     have h1 : (!(eqNo (a.getD k default) (b.getD k default))) = false := hc
     rw [eqNo_eq] at h1
     simpa using h1
   · exfalso; omega
 · repeat' (first | refine aoQ rfl rfl rfl (fun hg => by exact std0) (by exact rfl) ?_ | refine sqW ?_ | refine rgK (fun K' hK => ?_) | (refine aoN (hK _ _ ?_); clear hK K') | refine cdN rfl tI (fun hc => ?_) (fun hc => ?_) | refine blK ?_ | refine exW ?_ | refine skW ?_ | refine rtW ?_ | refine dK2 (by decide +kernel) (by kernel_rfl) (by decide +kernel) rfl (fun K' hK => ?_) | refine aqQ rfl rfl (fun hg => by first | exact std0 | exact std1) (by exact rfl) ?_)
   all_goals (first | (exfalso; omega) | skip)
   exact ⟨.inr rfl, Ent.b (list_eq_all hlen fun j hj => hall j (by omega)).symm⟩
structure Part where
 id : Int
 section_ : Int
 of_ : Int
 octave : Int
 desks : Int
 shift : Interval
 low : Pitch
 high : Pitch
 deriving DecidableEq, Inhabited
def encP (p : Part) : List AV := [.int p.id, .int p.section_, .int p.of_, .int p.octave, .int p.desks, .int p.shift.steps, .int p.shift.semi, .int p.low.step, .int p.low.alter, .int p.low.oct, .int p.high.step, .int p.high.alter, .int p.high.oct]
theorem swithin_spec (a b c : Int) : PCall Tryz.prog 136 [.int a, .int b, .int c] (.b (inB a b c)) := by
 refine PCall.body Tryz.func136 rfl rfl Tryz.ntmps136 rfl rfl ?_
 repeat' (first | refine aoQ rfl rfl rfl (fun hg => by exact std0) (by exact rfl) ?_ | refine sqW ?_ | refine rgK (fun K' hK => ?_) | (refine aoN (hK _ _ ?_); clear hK K') | refine rtW ?_)
 exact ⟨.inr rfl, Ent.b rfl⟩
theorem sisID_spec (a : Int) : PCall Tryz.prog 107 [.int a] (.b (inB a 1 1000000)) := by
 refine PCall.body Tryz.func107 rfl rfl Tryz.ntmps107 rfl rfl ?_
 repeat' (first | refine aoQ rfl rfl rfl (fun hg => by first | exact std0 | exact pcW (swithin_spec _ _ _) rfl rfl nd rfl nds) (by exact rfl) ?_ | refine sqW ?_ | refine rgK (fun K' hK => ?_) | (refine aoN (hK _ _ ?_); clear hK K') | refine rtW ?_)
 exact ⟨.inr rfl, Ent.b rfl⟩
def shiftOk (i : Interval) : Bool := (fifthsR i).2 == 0 && inB i.steps (-21) 21 && inB i.semi (-36) 36 && inB (fifthsR i).1 (-12) 12
theorem shifts_spec (i : Interval) : PCall Tryz.prog 161 [.agg (encI i)] (.b (shiftOk i)) := by
 refine PCall.body Tryz.func161 rfl rfl Tryz.ntmps161 rfl rfl ?_
 repeat' (first | refine aoQ rfl rfl rfl (fun hg => by first | exact std0 | exact pcW (fifths_spec i) rfl rfl nd rfl nds | exact pcW (swithin_spec _ _ _) rfl rfl nd rfl nds) (by exact rfl) ?_ | refine sqW ?_ | refine rgK (fun K' hK => ?_) | (refine aoN (hK _ _ ?_); clear hK K') | refine aoE (bxW rfl rfl rfl rfl rfl tI rfl rfl ?_) | refine rtW ?_)
 exact ⟨.inr rfl, Ent.b rfl⟩
theorem height_spec (p : Pitch) : PCall Tryz.prog 146 [.agg (encPi p)] (.int (numR2 p).1) := by
 refine PCall.body Tryz.func146 rfl rfl Tryz.ntmps146 rfl rfl ?_
 repeat' (first | refine aoQ rfl rfl rfl (fun hg => by first | exact std0 | exact pcW (pNumber_spec p) rfl rfl nd rfl nds) (by exact rfl) ?_ | refine sqW ?_ | refine rgK (fun K' hK => ?_) | (refine aoN (hK _ _ ?_); clear hK K') | refine aoE (bxW rfl rfl rfl rfl rfl tI rfl rfl ?_) | refine rtW ?_)
 exact ⟨.inr rfl, Ent.int rfl⟩
def partNums (p : Part) : Bool := inB p.id 1 1000000 && inB p.section_ 0 99 && inB p.of_ 0 1000000 && inB p.octave (-2) 2 && inB p.desks 1 40
def partBad (p : Part) : Bool := !partNums p || p.of_ == p.id || (p.of_ == 0 && p.octave != 0) || !shiftOk p.shift
def partOk (p : Part) : Bool := !partBad p && (pitchOk p.low && pitchOk p.high && decide ((numR2 p.low).1 ≤ (numR2 p.high).1))
theorem isPart_spec (p : Part) : PCall Tryz.prog 139 [.agg (encP p)] (.b (partOk p)) := by
 refine PCall.body Tryz.func139 rfl rfl Tryz.ntmps139 rfl rfl ?_
 repeat' (first | refine aoQ rfl rfl rfl (fun hg => by first | exact std0 | exact pcW (sisID_spec _) rfl rfl nd rfl nds | exact pcW (swithin_spec _ _ _) rfl rfl nd rfl nds | exact pcW (shifts_spec p.shift) rfl rfl nd rfl nds) (by exact rfl) ?_ | refine sqW ?_ | refine rgK (fun K' hK => ?_) | (refine aoN (hK _ _ ?_); clear hK K') | refine aoE (bxW rfl rfl rfl rfl rfl tI rfl rfl ?_) | refine cdN rfl tI (fun hc => ?_) (fun hc => ?_) | refine skW ?_ | refine rtW ?_ | refine dK2 (by decide +kernel) (by kernel_rfl) (by decide +kernel) rfl (fun K' hK => ?_) | (refine aqN (hK _ ?_); clear hK K') | refine aqQ rfl rfl (fun hg => by first | exact std0 | exact pcW (pvalid_spec p.low) rfl rfl nd rfl nds | exact pcW (pvalid_spec p.high) rfl rfl nd rfl nds | exact pcW (height_spec p.low) rfl rfl nd rfl nds | exact pcW (height_spec p.high) rfl rfl nd rfl nds) (by exact rfl) ?_)
 · refine ⟨.inr rfl, Ent.b (Eq.symm ?_)⟩
   unfold partOk
   rw [show partBad p = true from hc]; rfl
 · refine ⟨.inr rfl, Ent.b (Eq.symm ?_)⟩
   unfold partOk
   rw [show partBad p = false from hc]; rfl
theorem getD_mem {α : Type} [Inhabited α] {l : List α} {k : Nat} (h : k < l.length) : l.getD k default ∈ l := by
 rw [show l.getD k default = l[k] by simp [List.getD, h]]; exact lGm h
theorem idxPart_spec (l : List Part) (fv : AV) (p : Part → Bool) (hp : ∀ x ∈ l, FnCall Tryz.prog fv [.agg (encP x)] (.b (p x))) (hl : l.length ≤ 9223372036854775807) :
 PCall Tryz.prog 163 [.sl 13 (l.map encP) .no, fv] (.int (findI p l)) := by
 refine PCall.bodyX [1] Tryz.func163 rfl rfl Tryz.ntmps163 rfl rfl ?_
 repeat' (first | refine aoQ rfl rfl rfl (fun hg => by first | exact std0 | exact std1) (by exact rfl) ?_ | refine sqW ?_ | refine rgK (fun K' hK => ?_) | (refine aoN (hK _ _ ?_); clear hK K') | refine blK ?_)
 refine lpW (ι := Nat) (fun k => [(0, .sl 13 (l.map encP) .no), (1, .ext fv), (7, .int l.length), (8, .int k)]) (fun _ => []) (fun k => k ≤ l.length ∧ ∀ j, j < k → p (l.getD j default) = false) (fun k => l.length - k) 0 ⟨nZl _, fun j h => absurd h (by omega)⟩ ⟨rfl, rfl, rfl, rfl, tI⟩ rfl ?_
 rintro k ⟨hk, hall⟩
 by_cases hlt : k < l.length
 · repeat' (first | refine aoQ rfl rfl rfl (fun hg => by first | exact std0 | exact PRun.callV (hp _ (getD_mem hlt)) rfl rfl nd rfl nds | exact std1) (by exact rfl) ?_ | refine sqW ?_ | refine rgK (fun K' hK => ?_) | (refine aoN (hK _ _ ?_); clear hK K') | refine cdN rfl tI (fun hc => ?_) (fun hc => ?_) | refine blK ?_ | refine exW ?_ | refine skW ?_ | refine rtW ?_)
   · refine ⟨.inr rfl, ?_⟩
     rw [show findI p l = k from findI_at hlt hc hall]
     exact fun _ _ h => h
   · exact ⟨k + 1, ⟨by omega, fun j hj => lt_succ_cases hall hc hj⟩, by omega, ⟨rfl, rfl, rfl, rfl, tI⟩, rfl⟩
   · exfalso; omega
 · repeat' (first | refine aoQ rfl rfl rfl (fun hg => by first | exact std0 | exact std1) (by exact rfl) ?_ | refine sqW ?_ | refine rgK (fun K' hK => ?_) | (refine aoN (hK _ _ ?_); clear hK K') | refine cdN rfl tI (fun hc => ?_) (fun hc => ?_) | refine blK ?_ | refine exW ?_ | refine skW ?_ | refine rtW ?_)
   · exfalso; omega
   · refine ⟨.inr rfl, ?_⟩
     rw [show findI p l = -1 from findI_no fun j hj => hall j (by omega)]
     exact fun _ _ h => h
theorem idxNote_spec (l : List Note) (fv : AV) (p : Note → Bool) (hp : ∀ x ∈ l, FnCall Tryz.prog fv [.agg (encN x)] (.b (p x))) (hl : l.length ≤ 9223372036854775807) :
 PCall Tryz.prog 169 [.sl 12 (l.map encN) .no, fv] (.int (findI p l)) := by
 refine PCall.bodyX [1] Tryz.func169 rfl rfl Tryz.ntmps169 rfl rfl ?_
 repeat' (first | refine aoQ rfl rfl rfl (fun hg => by first | exact std0 | exact std1) (by exact rfl) ?_ | refine sqW ?_ | refine rgK (fun K' hK => ?_) | (refine aoN (hK _ _ ?_); clear hK K') | refine blK ?_)
 refine lpW (ι := Nat) (fun k => [(0, .sl 12 (l.map encN) .no), (1, .ext fv), (7, .int l.length), (8, .int k)]) (fun _ => []) (fun k => k ≤ l.length ∧ ∀ j, j < k → p (l.getD j default) = false) (fun k => l.length - k) 0 ⟨nZl _, fun j h => absurd h (by omega)⟩ ⟨rfl, rfl, rfl, rfl, tI⟩ rfl ?_
 rintro k ⟨hk, hall⟩
 by_cases hlt : k < l.length
 · repeat' (first | refine aoQ rfl rfl rfl (fun hg => by first | exact std0 | exact PRun.callV (hp _ (getD_mem hlt)) rfl rfl nd rfl nds | exact std1) (by exact rfl) ?_ | refine sqW ?_ | refine rgK (fun K' hK => ?_) | (refine aoN (hK _ _ ?_); clear hK K') | refine cdN rfl tI (fun hc => ?_) (fun hc => ?_) | refine blK ?_ | refine exW ?_ | refine skW ?_ | refine rtW ?_)
   · refine ⟨.inr rfl, ?_⟩
     rw [show findI p l = k from findI_at hlt hc hall]
     exact fun _ _ h => h
   · exact ⟨k + 1, ⟨by omega, fun j hj => lt_succ_cases hall hc hj⟩, by omega, ⟨rfl, rfl, rfl, rfl, tI⟩, rfl⟩
   · exfalso; omega
 · repeat' (first | refine aoQ rfl rfl rfl (fun hg => by first | exact std0 | exact std1) (by exact rfl) ?_ | refine sqW ?_ | refine rgK (fun K' hK => ?_) | (refine aoN (hK _ _ ?_); clear hK K') | refine cdN rfl tI (fun hc => ?_) (fun hc => ?_) | refine blK ?_ | refine exW ?_ | refine skW ?_ | refine rtW ?_)
   · exfalso; omega
   · refine ⟨.inr rfl, ?_⟩
     rw [show findI p l = -1 from findI_no fun j hj => hall j (by omega)]
     exact fun _ _ h => h
theorem contPart_spec (l : List Part) (fv : AV) (p : Part → Bool) (hp : ∀ x ∈ l, FnCall Tryz.prog fv [.agg (encP x)] (.b (p x))) (hl : l.length ≤ 9223372036854775807) :
 PCall Tryz.prog 141 [.sl 13 (l.map encP) .no, fv] (.b (decide (findI p l ≥ 0))) := by
 refine PCall.bodyX [1] Tryz.func141 rfl rfl Tryz.ntmps141 rfl rfl ?_
 repeat' (first | refine aoQ rfl rfl rfl (fun hg => by first | exact std0 | exact pcW (idxPart_spec l fv p hp hl) rfl rfl nd rfl nds) (by exact rfl) ?_ | refine sqW ?_ | refine rgK (fun K' hK => ?_) | (refine aoN (hK _ _ ?_); clear hK K') | refine rtW ?_)
 exact ⟨.inr rfl, fun _ _ h => h⟩
theorem contNote_spec (l : List Note) (fv : AV) (p : Note → Bool) (hp : ∀ x ∈ l, FnCall Tryz.prog fv [.agg (encN x)] (.b (p x))) (hl : l.length ≤ 9223372036854775807) :
 PCall Tryz.prog 147 [.sl 12 (l.map encN) .no, fv] (.b (decide (findI p l ≥ 0))) := by
 refine PCall.bodyX [1] Tryz.func147 rfl rfl Tryz.ntmps147 rfl rfl ?_
 repeat' (first | refine aoQ rfl rfl rfl (fun hg => by first | exact std0 | exact pcW (idxNote_spec l fv p hp hl) rfl rfl nd rfl nds) (by exact rfl) ?_ | refine sqW ?_ | refine rgK (fun K' hK => ?_) | (refine aoN (hK _ _ ?_); clear hK K') | refine rtW ?_)
 exact ⟨.inr rfl, fun _ _ h => h⟩
def idxR (i : Int) : Int × Bool := (max i 0, decide (i ≥ 0))
abbrev evP (p : Part) : AV := .agg (encP p)
def lost (al : List (Int × Part)) (p : Part) : Bool := p.of_ != 0 && (!(lk al p.of_).isSome || ((lk al p.of_).getD default).of_ != 0)
theorem lost_spec (al : List (Int × Part)) (x : Part) : PCall Tryz.prog 140 [.agg (encP x), .iptr [.imap (encM ekI evP al)]] (.b (lost al x)) := by
 refine PCall.body Tryz.func140 rfl rfl Tryz.ntmps140 rfl rfl ?_
 repeat' (first | refine aoQ rfl rfl rfl (fun hg => by first | exact std0 | exact PRun.lookup (ek := ekI) (ev := evP) (zv := (default : Part)) (keyLaw_int (LOk.of (tabOk.get rfl))) (LOk.of (tabOk.get rfl)) (LOk.of (tabOk.get rfl)) rfl rfl (Rd.w rfl nd) (Or.inl rfl) (Rd.w rfl nd) rfl) (by exact rfl) ?_ | refine sqW ?_ | refine rgK (fun K' hK => ?_) | (refine aoN (hK _ _ ?_); clear hK K') | refine aoE (bxW rfl rfl rfl rfl rfl tI rfl rfl ?_) | refine aoE (stW tabOk rfl rfl rfl tI rfl rfl tI rfl rfl rfl rfl rfl rfl rfl ?_) | refine aoE (alW tabOk rfl rfl rfl rfl rfl rfl ?_) | refine rtW ?_)
 exact ⟨.inr rfl, Ent.b rfl⟩
def partsAL (l : List Part) : List (Int × Part) := l.foldl (fun al p => ins al p.id p) []
theorem partsAL_succ (l : List Part) (k : Nat) (h : k < l.length) : partsAL (l.take (k + 1)) = ins (partsAL (l.take k)) (l.getD k default).id (l.getD k default) := by
 have e : l.take (k + 1) = l.take k ++ [l.getD k default] := by
  rw [List.take_add_one, show l[k]? = some (l.getD k default) by simp [List.getD, h]]; rfl
 rw [e]; unfold partsAL; rw [zBy]; rfl
def partsOk (l : List Part) : Bool := inB l.length 1 60 && l.all partOk && (((partsAL l).length : Int) == (l.length : Int) && !decide (findI (lost (partsAL l)) l ≥ 0))
theorem areParts_spec (l : List Part) (hl : l.length ≤ 9223372036854775807) : PCall Tryz.prog 109 [.sl 13 (l.map encP) .no] (.b (partsOk l)) := by
 have hf : ∀ x : Part, FnCall Tryz.prog (.fn (.func 140) [] [.iptr [.imap (encM ekI evP (partsAL l))]]) [.agg (encP x)] (.b (lost (partsAL l) x)) := fun x => ⟨_, [], _, rfl, lost_spec (partsAL l) x⟩
 have h := contPart_spec l _ (lost (partsAL l)) (fun x _ => hf x) hl
 refine PCall.body Tryz.func109 rfl rfl Tryz.ntmps109 rfl rfl ?_
 repeat' (first | refine aoQ rfl rfl rfl (fun hg => by first | exact std0 | exact pcW (swithin_spec _ _ _) rfl rfl nd rfl nds | exact std1) (by exact rfl) ?_ | refine sqW ?_ | refine rgK (fun K' hK => ?_) | (refine aoN (hK _ _ ?_); clear hK K') | refine aoE (stW tabOk rfl rfl rfl tI rfl rfl tI rfl rfl rfl rfl rfl rfl rfl ?_) | refine aoE (alW tabOk rfl rfl rfl rfl rfl rfl ?_) | refine aoE (EStep.makeMapW rfl rfl rfl rfl ?_) | refine cdN rfl tI (fun hc => ?_) (fun hc => ?_) | refine blK ?_ | refine skW ?_ | refine rtW ?_)
 · refine ⟨.inr rfl, Ent.b (Eq.symm ?_)⟩
   unfold partsOk
   rw [show inB (l.length : Int) 1 60 = false by simpa using hc]; rfl
 have h0 : inB (l.length : Int) 1 60 = true := by simpa using hc
 clear hc
 refine lpD (ι := Nat) (fun k => [(0, .sl 13 (l.map encP) .no), (3, .ptr 1 0), (12, .sl 13 (l.map encP) .no), (13, .int l.length), (14, .int k)]) (fun k => [.map (encM ekI evP (partsAL (l.take k))), .var [.map 0]])
  (fun k => k ≤ l.length ∧ ∀ j, j < k → partOk (l.getD j default) = true) (fun k => l.length - k) 2 (fun _ => rfl) 0 ⟨nZl _, fun j h => absurd h (by omega)⟩ ⟨rfl, rfl, rfl, rfl, rfl, tI⟩ rfl (fun _ _ => rfl) (fun k _ => by simp [okObj, encM, okRef, encP]) ?_
 rintro k ⟨hk, hall⟩
 by_cases hlt : k < l.length
 · repeat' (first | refine aoQ rfl rfl rfl (fun hg => by first | exact std0 | exact pcW (isPart_spec (l.getD k default)) rfl rfl nd rfl nds | exact std1) (by exact rfl) ?_ | refine sqW ?_ | refine rgK (fun K' hK => ?_) | (refine aoN (hK _ _ ?_); clear hK K') | refine aoE (stW tabOk rfl rfl rfl tI rfl rfl tI rfl rfl rfl rfl rfl rfl rfl ?_) | refine aoE (alW tabOk rfl rfl rfl rfl rfl rfl ?_) | refine aoE (EStep.mapUpd (ek := ekI) (ev := evP) (v := l.getD k default) (keyLaw_int (LOk.of (tabOk.get rfl))) (LOk.of (tabOk.get rfl)) rfl rfl rfl (Rd.w rfl tI) rfl (Rd.w rfl tI) rfl (Rd.w rfl tI) ?_) | refine cdN rfl tI (fun hc => ?_) (fun hc => ?_) | refine blK ?_ | refine exW ?_ | refine skW ?_ | refine rtW ?_)
   · refine ⟨.inr rfl, Ent.b (Eq.symm ?_)⟩
     unfold partsOk
     rw [h0, all_no hlt (by simpa using hc)]; rfl
   · refine ⟨k + 1, ⟨by omega, fun j hj => lt_succ_cases hall (by simpa using hc) hj⟩, by omega, ⟨rfl, rfl, rfl, rfl, rfl, tI⟩, ?_⟩
     rw [partsAL_succ l k hlt]; rfl
   · exfalso; omega
 · have htk : l.take k = l := zAt (by omega)
   have e : partsAL l = partsAL (l.take k) := by rw [htk]
   rw [e] at h
   refine AWP.freezeMapV (ek := ekI) (ev := evP) (l := 0) (al := partsAL (l.take k)) rfl (pureE_flat fun _ => rfl) ?_
   refine AWP.keep [(0, .sl 13 (l.map encP) .no), (3, .ptr 1 0), (12, .sl 13 (l.map encP) .no), (13, .int l.length), (14, .int k)] ⟨rfl, rfl, rfl, rfl, rfl, tI⟩ ?_
   repeat' (first | refine aoQ rfl rfl rfl (fun hg => by first | exact std0 | exact pbW (h) rfl rfl nd rfl rfl nds | exact PRun.lenMap (ek := ekI) (ev := evP) (al := partsAL (l.take k)) rfl (Rd.w rfl nd) (Or.inl rfl) (LOk.of (tabOk.get rfl)) | exact std1) (by exact rfl) ?_ | refine sqW ?_ | refine rgK (fun K' hK => ?_) | (refine aoN (hK _ _ ?_); clear hK K') | refine aoE (stW tabOk rfl rfl rfl tI rfl rfl tI rfl rfl rfl rfl rfl rfl rfl ?_) | refine aoE (alW tabOk rfl rfl rfl rfl rfl rfl ?_) | refine cdN rfl tI (fun hc => ?_) (fun hc => ?_) | refine blK ?_ | refine exW ?_ | refine skW ?_ | refine rtW ?_)
   · exfalso; omega
   all_goals (first | (exfalso; omega) | skip)
   refine ⟨.inr rfl, Ent.b (Eq.symm ?_)⟩
   unfold partsOk
   rw [h0, all_yes fun j hj => hall j (by omega), e]; rfl
def stranger (al : List (Int × Part)) (n : Note) : Bool := !(lk al n.part).isSome
def farN (al : List (Int × Part)) (n : Note) : Bool := !inB (numR2 n.pitch).1 (numR2 ((lk al n.part).getD default).low).1 (numR2 ((lk al n.part).getD default).high).1
theorem stranger_spec (al : List (Int × Part)) (x : Note) : PCall Tryz.prog 144 [.agg (encN x), .iptr [.imap (encM ekI evP al)]] (.b (stranger al x)) := by
 refine PCall.body Tryz.func144 rfl rfl Tryz.ntmps144 rfl rfl ?_
 repeat' (first | refine aoQ rfl rfl rfl (fun hg => by first | exact std0 | exact PRun.lookup (ek := ekI) (ev := evP) (zv := (default : Part)) (keyLaw_int (LOk.of (tabOk.get rfl))) (LOk.of (tabOk.get rfl)) (LOk.of (tabOk.get rfl)) rfl rfl (Rd.w rfl nd) (Or.inl rfl) (Rd.w rfl nd) rfl) (by exact rfl) ?_ | refine sqW ?_ | refine rgK (fun K' hK => ?_) | (refine aoN (hK _ _ ?_); clear hK K') | refine aoE (bxW rfl rfl rfl rfl rfl tI rfl rfl ?_) | refine aoE (stW tabOk rfl rfl rfl tI rfl rfl tI rfl rfl rfl rfl rfl rfl rfl ?_) | refine aoE (alW tabOk rfl rfl rfl rfl rfl rfl ?_) | refine rtW ?_)
 exact ⟨.inr rfl, Ent.b rfl⟩
theorem farN_spec (al : List (Int × Part)) (x : Note) : PCall Tryz.prog 145 [.agg (encN x), .iptr [.imap (encM ekI evP al)]] (.b (farN al x)) := by
 refine PCall.body Tryz.func145 rfl rfl Tryz.ntmps145 rfl rfl ?_
 repeat' (first | refine aoQ rfl rfl rfl (fun hg => by first | exact std0 | exact PRun.lookup (ek := ekI) (ev := evP) (zv := (default : Part)) (keyLaw_int (LOk.of (tabOk.get rfl))) (LOk.of (tabOk.get rfl)) (LOk.of (tabOk.get rfl)) rfl rfl (Rd.w rfl nd) (Or.inl rfl) (Rd.w rfl nd) rfl) (by exact rfl) ?_ | refine sqW ?_ | refine rgK (fun K' hK => ?_) | (refine aoN (hK _ _ ?_); clear hK K') | refine aoE (bxW rfl rfl rfl rfl rfl tI rfl rfl ?_) | refine aoE (stW tabOk rfl rfl rfl tI rfl rfl tI rfl rfl rfl rfl rfl rfl rfl ?_) | refine aoE (alW tabOk rfl rfl rfl rfl rfl rfl ?_) | refine rtW ?_ | refine dK2 (by decide +kernel) (by kernel_rfl) (by decide +kernel) rfl (fun K' hK => ?_) | (refine aqN (hK _ ?_); clear hK K') | refine aqQ rfl rfl (fun hg => by first | exact std0 | exact pcW (height_spec x.pitch) rfl rfl nd rfl nds | exact pcW (height_spec ((lk al x.part).getD default).low) rfl rfl nd rfl nds | exact pcW (height_spec ((lk al x.part).getD default).high) rfl rfl nd rfl nds | exact pcW (swithin_spec _ _ _) rfl rfl nd rfl nds) (by exact rfl) ?_)
 exact ⟨.inr rfl, Ent.b rfl⟩
def ownAL (l : List Part) : List (Int × Part) := partsAL (l.filter fun p => p.of_ == 0)
theorem ownAL_succ (l : List Part) (k : Nat) (h : k < l.length) : ownAL (l.take (k + 1)) = if (l.getD k default).of_ == 0 then ins (ownAL (l.take k)) (l.getD k default).id (l.getD k default) else ownAL (l.take k) := by
 have e : l.take (k + 1) = l.take k ++ [l.getD k default] := by
  rw [List.take_add_one, show l[k]? = some (l.getD k default) by simp [List.getD, h]]; rfl
 unfold ownAL
 rw [e, zC1]
 by_cases h2 : ((l.getD k default).of_ == 0) = true
 · rw [if_pos h2, zBh (p := fun p : Part => p.of_ == 0) h2]
   unfold partsAL; rw [List.filter_nil, zBy]; rfl
 · rw [if_neg h2, zBi (p := fun p : Part => p.of_ == 0) h2, List.filter_nil, zCg]
def wrongR (parts : List Part) (l : List Note) : Int := if findI (stranger (ownAL parts)) l ≥ 0 then 22 else if findI (farN (ownAL parts)) l ≥ 0 then 20 else 0
theorem wrong_spec (parts : List Part) (l : List Note) (hp : parts.length ≤ 9223372036854775807) (hl : l.length ≤ 9223372036854775807) : PCall Tryz.prog 111 [.sl 13 (parts.map encP) .no, .sl 12 (l.map encN) .no] (.int (wrongR parts l)) := by
 have hf1 : ∀ x : Note, FnCall Tryz.prog (.fn (.func 144) [] [.iptr [.imap (encM ekI evP (ownAL parts))]]) [.agg (encN x)] (.b (stranger (ownAL parts) x)) := fun x => ⟨_, [], _, rfl, stranger_spec (ownAL parts) x⟩
 have hf2 : ∀ x : Note, FnCall Tryz.prog (.fn (.func 145) [] [.iptr [.imap (encM ekI evP (ownAL parts))]]) [.agg (encN x)] (.b (farN (ownAL parts) x)) := fun x => ⟨_, [], _, rfl, farN_spec (ownAL parts) x⟩
 have h1 := contNote_spec l _ (stranger (ownAL parts)) (fun x _ => hf1 x) hl
 have h2 := contNote_spec l _ (farN (ownAL parts)) (fun x _ => hf2 x) hl
 refine PCall.body Tryz.func111 rfl rfl Tryz.ntmps111 rfl rfl ?_
 repeat' (first | refine aoQ rfl rfl rfl (fun hg => by first | exact std0 | exact std1) (by exact rfl) ?_ | refine sqW ?_ | refine rgK (fun K' hK => ?_) | (refine aoN (hK _ _ ?_); clear hK K') | refine aoE (stW tabOk rfl rfl rfl tI rfl rfl tI rfl rfl rfl rfl rfl rfl rfl ?_) | refine aoE (alW tabOk rfl rfl rfl rfl rfl rfl ?_) | refine aoE (EStep.makeMapW rfl rfl rfl rfl ?_) | refine blK ?_)
 refine lpD (ι := Nat) (fun k => [(1, .sl 12 (l.map encN) .no), (5, .ptr 1 0), (11, .sl 13 (parts.map encP) .no), (12, .int parts.length), (13, .int k)]) (fun k => [.map (encM ekI evP (ownAL (parts.take k))), .var [.map 0]])
  (fun k => k ≤ parts.length) (fun k => parts.length - k) 2 (fun _ => rfl) 0 (nZl _) ⟨rfl, rfl, rfl, rfl, rfl, tI⟩ rfl (fun _ _ => rfl) (fun k _ => by simp [okObj, encM, okRef, encP]) ?_
 intro k hk
 by_cases hlt : k < parts.length
 · repeat' (first | refine aoQ rfl rfl rfl (fun hg => by first | exact std0 | exact std1) (by exact rfl) ?_ | refine sqW ?_ | refine rgK (fun K' hK => ?_) | (refine aoN (hK _ _ ?_); clear hK K') | refine aoE (stW tabOk rfl rfl rfl tI rfl rfl tI rfl rfl rfl rfl rfl rfl rfl ?_) | refine aoE (alW tabOk rfl rfl rfl rfl rfl rfl ?_) | refine aoE (EStep.mapUpd (ek := ekI) (ev := evP) (v := parts.getD k default) (keyLaw_int (LOk.of (tabOk.get rfl))) (LOk.of (tabOk.get rfl)) rfl rfl rfl (Rd.w rfl tI) rfl (Rd.w rfl tI) rfl (Rd.w rfl tI) ?_) | refine cdN rfl tI (fun hc => ?_) (fun hc => ?_) | refine blK ?_ | refine exW ?_ | refine skW ?_)
   · refine ⟨k + 1, by omega, by omega, ⟨rfl, rfl, rfl, rfl, rfl, tI⟩, ?_⟩
     rw [ownAL_succ parts k hlt, if_pos (by simpa using hc)]; rfl
   · refine ⟨k + 1, by omega, by omega, ⟨rfl, rfl, rfl, rfl, rfl, tI⟩, ?_⟩
     rw [ownAL_succ parts k hlt, if_neg (by simpa using hc)]; rfl
   · exfalso; omega
 · have htk : parts.take k = parts := zAt (by omega)
   have e : ownAL parts = ownAL (parts.take k) := by rw [htk]
   rw [e] at h1 h2
   refine AWP.freezeMapV (ek := ekI) (ev := evP) (l := 0) (al := ownAL (parts.take k)) rfl (pureE_flat fun _ => rfl) ?_
   refine AWP.keep [(1, .sl 12 (l.map encN) .no), (5, .ptr 1 0), (11, .sl 13 (parts.map encP) .no), (12, .int parts.length), (13, .int k)] ⟨rfl, rfl, rfl, rfl, rfl, tI⟩ ?_
   repeat' (first | refine aoQ rfl rfl rfl (fun hg => by first | exact std0 | exact pbW (h1) rfl rfl nd rfl rfl nds | exact pbW (h2) rfl rfl nd rfl rfl nds | exact std1) (by exact rfl) ?_ | refine sqW ?_ | refine rgK (fun K' hK => ?_) | (refine aoN (hK _ _ ?_); clear hK K') | refine aoE (stW tabOk rfl rfl rfl tI rfl rfl tI rfl rfl rfl rfl rfl rfl rfl ?_) | refine aoE (alW tabOk rfl rfl rfl rfl rfl rfl ?_) | refine cdN rfl tI (fun hc => ?_) (fun hc => ?_) | refine blK ?_ | refine exW ?_ | refine skW ?_ | refine rtW ?_)
   all_goals (first | (exfalso; omega) | skip)
   · refine ⟨.inr rfl, Ent.int (Eq.symm ?_)⟩
     unfold wrongR; rw [e, if_pos (by simpa using hc)]
   · rename_i hc0
     refine ⟨.inr rfl, Ent.int (Eq.symm ?_)⟩
     unfold wrongR; rw [e, if_neg (by simpa using hc0), if_pos (by simpa using hc)]
   · rename_i hc0
     refine ⟨.inr rfl, Ent.int (Eq.symm ?_)⟩
     unfold wrongR; rw [e, if_neg (by simpa using hc0), if_neg (by simpa using hc)]
structure Score where
 version : Int
 bars : List Bar
 parts : List Part
 notes : List Note
 deriving DecidableEq, Inhabited
def encS (s : Score) : List AV := [.int s.version, .sl 4 (s.bars.map encB) .no, .sl 13 (s.parts.map encP) .no, .sl 12 (s.notes.map encN) .no]
def Score.Small (s : Score) : Prop := s.bars.length ≤ 1000000000 ∧ s.parts.length ≤ 1000000000 ∧ s.notes.length ≤ 1000000000
def scoreBad (s : Score) : Bool := !inB s.version 1 1000000 || !barsOk s.bars || !partsOk s.parts || !notesOk s.bars s.notes || wrongR s.parts s.notes != 0
def scoreOk (s : Score) : Bool := !scoreBad s && ((sortR s.bars s.notes).2 == 0 && (sortR s.bars s.notes).1 == s.notes)
theorem sortR_len (bars : List Bar) (l : List Note) : (sortR bars l).1.length ≤ l.length := by
 unfold sortR; split
 · simp [sortN_len]
 · simp
theorem svalid_spec (s : Score) (hs : s.Small) : PCall Tryz.prog 83 [.agg (encS s)] (.b (scoreOk s)) := by
 obtain ⟨h1, h2, h3⟩ := hs
 have v1 := mvalid_spec s.bars (by omega)
 have v2 := areParts_spec s.parts (by omega)
 have v3 := nvalid_spec s.bars s.notes (by omega) (by omega)
 have v4 := wrong_spec s.parts s.notes (by omega) (by omega)
 have v5 := Sort_spec s.bars s.notes h1 h3
 have hq := sortR_len s.bars s.notes
 have v6 := equalN_spec (sortR s.bars s.notes).1 s.notes (by omega) (by omega)
 refine PCall.body Tryz.func83 rfl rfl Tryz.ntmps83 rfl rfl ?_
 repeat' (first | refine aoQ rfl rfl rfl (fun hg => by first | exact std0 | exact pcW (sisID_spec _) rfl rfl nd rfl nds | exact pcW (v1) rfl rfl nd rfl nds | exact pcW (v2) rfl rfl nd rfl nds | exact pcW (v3) rfl rfl nd rfl nds | exact pcW (v4) rfl rfl nd rfl nds | exact pcW (v5) rfl rfl nd rfl nds | exact pcW (v6) rfl rfl nd rfl nds) (by exact rfl) ?_ | refine sqW ?_ | refine rgK (fun K' hK => ?_) | (refine aoN (hK _ _ ?_); clear hK K') | refine aoE (bxW rfl rfl rfl rfl rfl tI rfl rfl ?_) | refine cdN rfl tI (fun hc => ?_) (fun hc => ?_) | refine skW ?_ | refine rtW ?_)
 · refine ⟨.inr rfl, Ent.b (Eq.symm ?_)⟩
   unfold scoreOk
   rw [show scoreBad s = true from hc]; rfl
 · refine ⟨.inr rfl, Ent.b (Eq.symm ?_)⟩
   unfold scoreOk
   rw [show scoreBad s = false from hc]; rfl
end Go.Proofs.YtekfpcgagoidcaaGreatDoor
