/- Contracts by content: the laws of bowing: the example, what is usable, a value.  Contracts by content: bowing.Clashes: the objects, the first loop's facts.  Contracts by content: bowing.areMarks.  Contracts by content: bowing.Clashes. No statement is proved here. -/
import Derived.Test.YtficfljjnbnhbaaGreatDoorP13
import Derived.Test.YtficfljjnbnhbaaGreatDoorP16
import Derived.Test.YtficfljjnbnhbaaGreatDoorP19
import Derived.Test.YtficfljjnbnhbaaGreatDoorP20
import Derived.Test.YtficfljjnbnhbaaGreatDoorP26
import Derived.Test.YtficfljjnbnhbaaGreatDoorP27
import Derived.Test.YtficfljjnbnhbaaGreatDoorP30
set_option linter.unusedVariables false
set_option linter.unusedSimpArgs false
namespace Go.Ab
theorem PCall.nilAt {P : Program} {f : FuncId} {sz : Nat} (pre post : List AV) {r : AV} (h : PCall P f (pre ++ .sl sz [] .no :: post) r) : PCall P f (pre ++ .nils :: post) r := by
 refine ⟨h.1, fun M W vs hm ha => h.2 M W vs hm ⟨by rw [ha.1]; simp, fun i c hi => ?_⟩⟩
 rcases Nat.lt_trichotomy i pre.length with g | g | g
 · rw [zA3 g] at hi
   exact ha.2 i c (by rw [zA3 g]; exact hi)
 · subst g
   rw [zA4 (nLr _), Nat.sub_self] at hi
   simp at hi
   subst hi
   have := ha.2 pre.length .nils (by simp)
   generalize vs.getD pre.length undef = y at this ⊢
   cases this; exact .slz sz .no trivial
 · rw [zA4 (by omega)] at hi
   obtain ⟨k, hk⟩ : ∃ k, i - pre.length = k + 1 := ⟨i - pre.length - 1, by omega⟩
   rw [hk] at hi
   exact ha.2 i c (by rw [zA4 (by omega), hk]; exact hi)
theorem Ent.nil3 (a b c : Nat) : Ent (.agg [.nils, .nils, .nils]) (.agg [.sl a [] .no, .sl b [] .no, .sl c [] .no]) := fun M x h => by
 cases h with
 | agg _ vs hs hv =>
   refine .agg _ vs hs fun i v hi => ?_
   match i, hi with
   | 0, hi =>
     cases hi
     have h0 := hv 0 _ rfl
     generalize vs.getD 0 undef = y at h0 ⊢
     cases h0; exact .slz _ .no trivial
   | 1, hi =>
     cases hi
     have h0 := hv 1 _ rfl
     generalize vs.getD 1 undef = y at h0 ⊢
     cases h0; exact .slz _ .no trivial
   | 2, hi =>
     cases hi
     have h0 := hv 2 _ rfl
     generalize vs.getD 2 undef = y at h0 ⊢
     cases h0; exact .slz _ .no trivial
   | i + 3, hi => cases hi
end Go.Ab
namespace Go.Proofs.YtficfljjnbnhbaaGreatDoor.Bw
open Go.Ab Go.Sort Mk
attribute [local irreducible] AWP AOps EStep AQ PStep PRun PCall TCall VCall DStep TDies AWD DCall
theorem few20_spec (s : Score) (hs : s.Sized) (l : List Jo.Mark) (hl : l.length ≤ 9223372036854775807) : PCall Tryz.prog 11 [.agg (encS s), .sl 10 (l.map encMk) .no]
 (.b (((decide ((s.bars.length : Int) ≤ 12) && decide ((s.parts.length : Int) ≤ 8)) && decide ((s.notes.length : Int) ≤ 40)) && decide ((l.length : Int) ≤ 40))) := by
 obtain ⟨h1, h2, h3⟩ := hs
 refine PCall.body Tryz.func11 rfl rfl Tryz.ntmps11 rfl rfl ?_
 repeat' (first | refine aoQ rfl rfl rfl (fun hg => by first | exact std0 | exact std1) (by exact rfl) ?_ | refine sqW ?_ | refine rgK (fun K' hK => ?_) | (refine aoN (hK _ _ ?_); clear hK K') | refine aoE (bxW rfl rfl rfl rfl rfl tI rfl rfl ?_) | refine rtW ?_)
 exact ⟨.inr rfl, Ent.b rfl⟩
def few20 (s : Score) (l : List Jo.Mark) : Bool := ((decide ((s.bars.length : Int) ≤ 12) && decide ((s.parts.length : Int) ≤ 8)) && decide ((s.notes.length : Int) ≤ 40)) && decide ((l.length : Int) ≤ 40)
theorem few20_iff {s : Score} {l : List Jo.Mark} : few20 s l = true ↔ s.bars.length ≤ 12 ∧ s.parts.length ≤ 8 ∧ s.notes.length ≤ 40 ∧ l.length ≤ 40 := by
 unfold few20
 simp only [zA0, dEt]
 omega
theorem desk20_spec (id part note value : Int) : PCall Tryz.prog 30 [.int id, .int part, .int note, .int value] (.agg (encMk (desk20 id part note value))) := by
 refine PCall.bodyS tabOk Tryz.func30 rfl rfl Tryz.ntmps30 rfl ?_
 repeat' (first | refine aoQ rfl rfl rfl (fun hg => by first | exact std0 | exact pbD tabOk rfl rfl nds) (by exact rfl) ?_ | refine sqW ?_ | refine rgK (fun K' hK => ?_) | (refine aoN (hK _ _ ?_); clear hK K') | refine aoE (stW tabOk rfl rfl rfl tI rfl rfl tI rfl rfl rfl rfl rfl rfl rfl ?_) | refine aoE (alW tabOk rfl rfl rfl rfl rfl rfl ?_) | refine rtW ?_)
 exact ⟨.inr rfl, _, rfl, Ent.of rfl⟩
set_option maxHeartbeats 8000000 in
set_option maxRecDepth 20000 in
theorem example20_spec : PCall Tryz.prog 29 [] (.agg (encS exS20)) := by
 refine PCall.bodyS tabOk Tryz.func29 rfl rfl Tryz.ntmps29 rfl ?_
 repeat' (first | refine aoQ rfl rfl rfl (fun hg => by first | exact std0 | exact pbD tabOk rfl rfl nds | exact pbS tabOk rfl rfl nds) (by exact rfl) ?_ | refine sqW ?_ | refine rgK (fun K' hK => ?_) | (refine aoN (hK _ _ ?_); clear hK K') | refine aoE (stW tabOk rfl rfl rfl tI rfl rfl tI rfl rfl rfl rfl rfl rfl rfl ?_) | refine aoE (alW tabOk rfl rfl rfl rfl rfl rfl ?_) | refine rtW ?_)
 exact ⟨.inr rfl, _, rfl, Ent.of rfl⟩
theorem few_small {s : Score} {l : List Jo.Mark} (h : few20 s l = true) : s.Small := by
 obtain ⟨h1, h2, h3, _⟩ := few20_iff.1 h
 exact ⟨by omega, by omega, by omega⟩
theorem usable20_spec (s : Score) (hs : s.Sized) (l : List Jo.Mark) (hl : l.length ≤ 9223372036854775807) (ht : TextsIn l) (sec : Int) (ex : List Int) (hex : ex.length ≤ 9223372036854775807) :
 PCall Tryz.prog 21 [.agg (encS s), .sl 10 (l.map encMk) .no, .int sec, .sl 1 (ex.map eI) .no] (.b ((few20 s l && decide ((ex.length : Int) ≤ 60)) && formB s l sec ex)) := by
 have h1 := few20_spec s hs l hl
 rw [show (((decide ((s.bars.length : Int) ≤ 12) && decide ((s.parts.length : Int) ≤ 8)) && decide ((s.notes.length : Int) ≤ 40)) && decide ((l.length : Int) ≤ 40)) = few20 s l from rfl] at h1
 cases hf : few20 s l with
 | true =>
   have h2 := form20_spec s (few_small hf) l hl ht sec ex hex
   rw [hf] at h1
   generalize formB s l sec ex = x2 at *
   refine PCall.body Tryz.func21 rfl rfl Tryz.ntmps21 rfl rfl ?_
   repeat' (first | refine aoQ rfl rfl rfl (fun hg => by first | exact std0 | exact pcW (h1) rfl rfl nd rfl nds | exact pcW (h2) rfl rfl nd rfl nds | exact std1) (by exact rfl) ?_ | refine sqW ?_ | refine rgK (fun K' hK => ?_) | (refine aoN (hK _ _ ?_); clear hK K') | refine aoE (bxW rfl rfl rfl rfl rfl tI rfl rfl ?_) | refine rtW ?_)
   exact ⟨.inr rfl, Ent.b rfl⟩
 | false =>
   rw [hf] at h1
   refine PCall.body Tryz.func21 rfl rfl Tryz.ntmps21 rfl rfl ?_
   repeat' (first | refine aoQ rfl rfl rfl (fun hg => by first | exact std0 | exact pcW (h1) rfl rfl nd rfl nds | exact (Bool.noConfusion (show false = true from hg) : PRun _ _ _ _ (.b false)) | fail) (by exact rfl) ?_ | refine sqW ?_ | refine rgK (fun K' hK => ?_) | (refine aoN (hK _ _ ?_); clear hK K') | refine aoE (bxW rfl rfl rfl rfl rfl tI rfl rfl ?_) | refine rtW ?_)
   exact ⟨.inr rfl, Ent.b rfl⟩
def val20 (l : List Jo.Mark) (n : Int) : Int := match l.find? (fun m => m.kind == 1 && m.note == n) with
 | some m => m.value
 | none => 0
theorem find_at {α : Type} [Inhabited α] {q : α → Bool} : ∀ {l : List α} {k : Nat}, k < l.length → q (l.getD k default) = true → (∀ j, j < k → q (l.getD j default) = false) → l.find? q = some (l.getD k default)
 | [], k, h, _, _ => absurd h (by simp)
 | a :: l, 0, _, h, _ => by
   have h : q a = true := h
   rw [List.find?_cons_of_pos h]; rfl
 | a :: l, k + 1, hk, h, hall => by
   have h0 : q a = false := hall 0 (zB6 _)
   rw [List.find?_cons_of_neg (by rw [h0]; decide)]
   exact find_at (by simpa using hk) h fun j hj => hall (j + 1) (by omega)
theorem find_no {α : Type} [Inhabited α] {q : α → Bool} : ∀ {l : List α}, (∀ j, j < l.length → q (l.getD j default) = false) → l.find? q = none
 | [], _ => rfl
 | a :: l, hall => by
   have h0 : q a = false := hall 0 (zB6 _)
   rw [List.find?_cons_of_neg (by rw [h0]; decide)]
   exact find_no fun j hj => hall (j + 1) (by simpa using hj)
theorem value20_spec (l : List Jo.Mark) (hl : l.length ≤ 9223372036854775807) (n : Int) : PCall Tryz.prog 24 [.sl 10 (l.map encMk) .no, .int n] (.int (val20 l n)) := by
 refine PCall.body Tryz.func24 rfl rfl Tryz.ntmps24 rfl rfl ?_
 repeat' (first | refine aoQ rfl rfl rfl (fun hg => by exact std0) (by exact rfl) ?_ | refine sqW ?_ | refine rgK (fun K' hK => ?_) | (refine aoN (hK _ _ ?_); clear hK K') | refine blK ?_)
 refine lpW (ι := Nat) (fun k => [(0, .sl 10 (l.map encMk) .no), (1, .int n), (5, .int k)]) (fun _ => []) (fun k => k ≤ l.length ∧ ∀ j, j < k → ((l.getD j default).kind == 1 && (l.getD j default).note == n) = false) (fun k => l.length - k) 0 ⟨nZl _, fun j h => absurd h (by omega)⟩ ⟨rfl, rfl, rfl, tI⟩ rfl ?_
 rintro k ⟨hk, hall⟩
 by_cases hlt : k < l.length
 · obtain ⟨m, hm⟩ : ∃ m, l.getD k default = m := ⟨_, rfl⟩
   repeat' (first | refine aoQ rfl rfl rfl (fun hg => by first | exact iX encMk l ((k : Nat) : Int) hm (hb := by omega) | exact std0 | exact std1) (by exact rfl) ?_ | refine sqW ?_ | refine rgK (fun K' hK => ?_) | (refine aoN (hK _ _ ?_); clear hK K') | refine cdN rfl tI (fun hc => ?_) (fun hc => ?_) | refine blK ?_ | refine exW ?_ | refine skW ?_ | refine rtW ?_)
   all_goals (first | exact dd | skip)
   · exact ⟨.inr rfl, Ent.int (by unfold val20; rw [find_at (q := fun m : Jo.Mark => m.kind == 1 && m.note == n) hlt (by rw [hm]; exact hc) hall, hm])⟩
   · exact ⟨k + 1, ⟨hlt, fun j hj => lt_succ_cases (P := fun j => ((l.getD j default).kind == 1 && (l.getD j default).note == n) = false) hall (by rw [hm]; exact hc) hj⟩, by omega, ⟨rfl, rfl, rfl, tI⟩, rfl⟩
 · repeat' (first | refine aoQ rfl rfl rfl (fun hg => by first | exact std0 | exact std1) (by exact rfl) ?_ | refine sqW ?_ | refine rgK (fun K' hK => ?_) | (refine aoN (hK _ _ ?_); clear hK K') | refine cdN rfl tI (fun hc => ?_) (fun hc => ?_) | refine blK ?_ | refine exW ?_ | refine skW ?_ | refine rtW ?_)
   all_goals (first | exact dd | skip)
   exact ⟨.inr rfl, Ent.int (by unfold val20; rw [find_no (q := fun m : Jo.Mark => m.kind == 1 && m.note == n) fun j hj => hall j (by omega)])⟩
theorem in20 {s : Score} {l : List Jo.Mark} {sec : Int} {ex : List Int} (h : few20 s l = true) (ht : TextsIn l) (hex : ex.length ≤ 1000000) : In20 s l sec ex := by
 obtain ⟨h1, h2, h3, h4⟩ := few20_iff.1 h
 refine ⟨⟨by omega, by omega, by omega⟩, by omega, by omega, by omega, by omega, ht, hex, fun hf => ?_⟩
 have hok : scoreOk s = true := by
  unfold formB at hf
  simp only [zA0] at hf
  exact hf.1.1.1
 exact zBb (bows_few hok h2 h3 l sec ex) (by decide)
theorem exM20_texts : TextsIn exM20 := fun m hm => by
 rcases zB7.1 hm with rfl | hm
 · exact nZl _
 · rcases zB7.1 hm with rfl | hm
   · exact nZl _
   · cases hm
theorem ex20_in (sec : Int) (ex : List Int) (hex : ex.length ≤ 1000000) : In20 exS20 exM20 sec ex := in20 (by decide) exM20_texts hex
theorem flM20 : flatN Tryz.prog 66 = some [.int .i64, .int .i64, .int .i64, .int .i64, .int .i64, .int .i64, .int .i64, .int .i64, .int .i64, .str] := by kernel_rfl
set_option maxHeartbeats 32000000 in
set_option maxRecDepth 20000 in
theorem head20_spec (hc : ∀ {s : Score} {l : List Jo.Mark} {sec : Int} {ex : List Int}, In20 s l sec ex → PCall Tryz.prog 12 [.agg (encS s), .sl 10 (l.map encMk) .no, .int sec, .sl 1 (ex.map eI) .no] (tupC (clashesR s l sec ex))) :
 PCall Tryz.prog 10 [] (.b true) := by
 have e0 := example20_spec
 have d1 := desk20_spec 8 1 5 1
 have d2 := desk20_spec 7 2 6 2
 have c4 := hc (ex20_in 4 [] (by decide))
 have c5 := hc (ex20_in 5 [] (by decide))
 have c6 := hc (ex20_in 4 [6] (by decide))
 have r9 := restore_spec (ex20_in 4 [] (by decide)) 9 c4
 have r8 := restore_spec (ex20_in 4 [] (by decide)) 8 c4
 rw [ex20_r4] at c4
 rw [ex20_r5] at c5
 rw [ex20_r6] at c6
 rw [ex20_res9] at r9
 rw [ex20_res8] at r8
 have k1 := choices_spec (clOf exG20) (clOf_sized (by decide))
 rw [ex20_cho, encC_clOf] at k1
 have k0 := choices_spec ⟨[], [], []⟩ ⟨by decide, by decide, by decide⟩
 rw [ex20_cho0] at k0
 replace c4 := PCall.nilAt (sz := 1) [_, _, _] [] c4
 replace c5 := PCall.nilAt (sz := 1) [_, _, _] [] c5
 replace r9 := PCall.nilAt (sz := 1) [_, _, _] [_] r9
 replace r8 := PCall.nilAt (sz := 1) [_, _, _] [_] r8
 replace k0 := PCall.argE (Ent.nil3 1 1 3) k0
 have s1 := sameC_spec [clOf exG20] (by decide) (fun c h => by rcases zAl.1 h with rfl; exact clOf_sized (by decide))
 have s2 := sameInts_spec [1, 2] (by decide)
 clear hc
 refine PCall.body Tryz.func10 rfl rfl Tryz.ntmps10 rfl rfl ?_
 repeat' (first | refine aoQ rfl rfl rfl (fun hg => by first | exact std0 | exact pcW (e0) rfl rfl nd rfl nds | exact pcW (d1) rfl rfl nd rfl nds | exact pcW (d2) rfl rfl nd rfl nds | exact pcW (c4) rfl rfl nd rfl nds | exact pcW (c5) rfl rfl nd rfl nds | exact pcW (c6) rfl rfl nd rfl nds | exact pcW (k1) rfl rfl nd rfl nds | exact pcW (k0) rfl rfl nd rfl nds | exact pcW (r9) rfl rfl nd rfl nds | exact pcW (r8) rfl rfl nd rfl nds | exact pcW (s1) rfl rfl nd rfl nds | exact pcW (s2) rfl rfl nd rfl nds | exact pbD tabOk rfl rfl nds | exact pbS tabOk rfl rfl nds | exact PRun.eqN flM20 rfl rfl nd rfl nd rfl | exact PRun.indexW tabOk rfl rfl nd rfl nd rfl ⟨by decide, by decide⟩ | exact std1) (by exact rfl) ?_ | refine sqW ?_ | refine rgK (fun K' hK => ?_) | (refine aoN (hK _ _ ?_); clear hK K') | refine aoE (stW tabOk rfl rfl rfl tI rfl rfl tI rfl rfl rfl rfl rfl rfl rfl ?_) | refine aoE (alW tabOk rfl rfl rfl rfl rfl rfl ?_) | refine cdN rfl tI (fun hc => ?_) (fun hc => ?_) | refine skW ?_ | refine rtW ?_)
 all_goals (first | (exact ⟨.inr rfl, Ent.b rfl⟩) | (exact absurd hc (by decide)) | trace_state)
def kS : Nat → AV
 | 0 => .sl 3 [] (.own 3)
 | m + 1 => .sla 3 3 0 (m + 1) (m + 1)
theorem kS_ok {m n : Nat} (h : 3 < m) : okRef m 4 (kS n) = true := by
 cases n
 · exact decide_eq_true h
 · exact decide_eq_true h
theorem fz1 {pre R : Store} {p j N sz : Nat} {f : Nat → Nat} (hp : pre.length = p) (hj : j < N) : (pre ++ (objZ sz f N ++ R))[p + j]? = some (.own sz (f j)) := by
 subst hp
 rw [zA4 (by omega), zCc, zA3 (by rw [objZ_len]; exact hj), objZ_at hj]
theorem fs1 {pre R : Store} {p j N sz m : Nat} {f : Nat → Nat} (hp : pre.length = p) (hj : j < N) : (pre ++ (objZ sz f N ++ R)).set (p + j) (.own sz m) = pre ++ (objZ sz (fun i => if i = j then m else f i) N ++ R) := by
 subst hp
 rw [List.set_append_right _ _ (by omega), zCc, zDe _ _ (by rw [objZ_len]; exact hj), objZ_set hj]
def famV (N : Nat) (f f' : Nat → Nat) (a b c : Nat) : Store := objZ 1 (if a = 0 then f else f') N ++ (objZ 1 (if c = 0 then f else f') N ++ objZ 3 (if b = 0 then f else f') N)
def famK (N : Nat) (f : Nat → Nat) : Store := objZ 1 f N ++ (objZ 1 f N ++ objZ 3 f N)
theorem famK_len (N : Nat) (f : Nat → Nat) : (famK N f).length = N + (N + N) := by unfold famK; simp only [lLa, objZ_len]
theorem famK_ok (m N : Nat) (f : Nat → Nat) : (famK N f).all (okObj m) = true := by
 have h : ∀ sz (g : Nat → Nat), (objZ sz g N).all (okObj m) = true := fun sz g => by
  unfold objZ
  rw [List.all_map, zA8]; intro x _; rfl
 unfold famK
 rw [zCi, zCi, h, h]; rfl
theorem famK_0 (N : Nat) : famK N (lenB []) = List.replicate N (.own 1 0) ++ (List.replicate N (.own 1 0) ++ List.replicate N (.own 3 0)) := by
 have h : ∀ sz, objZ sz (lenB []) N = List.replicate N (.own sz 0) := fun sz => by
  unfold objZ
  have e : (List.range N).map (fun j => AObj.own sz (lenB [] j)) = (List.range N).map (fun _ => AObj.own sz 0) := zDj fun x _ => by
   unfold lenB; simp
  rw [e, List.map_const', zDb]
 unfold famK
 rw [h, h]
theorem famV_at {pre : Store} {p j N : Nat} {f f' : Nat → Nat} (hp : pre.length = p) (hj : j < N) :
 (∀ b c, (pre ++ famV N f f' 0 b c)[p + j]? = some (.own 1 (f j))) ∧ (∀ a c, (pre ++ famV N f f' a 0 c)[p + N + N + j]? = some (.own 3 (f j))) ∧ ∀ a b, (pre ++ famV N f f' a b 0)[p + N + j]? = some (.own 1 (f j)) := by
 unfold famV
 refine ⟨fun b c => fz1 hp hj, fun a c => ?_, fun a b => ?_⟩
 · have := fz1 (pre := pre ++ objZ 1 (if a = 0 then f else f') N ++ objZ 1 (if c = 0 then f else f') N) (R := []) (p := p + N + N) (sz := 3) (f := f) (by simp only [lLa, objZ_len, hp]) hj
   simp only [zBh, zAt] at this
   exact this
 · have := fz1 (pre := pre ++ objZ 1 (if a = 0 then f else f') N) (R := objZ 3 (if b = 0 then f else f') N) (p := p + N) (sz := 1) (f := f) (by simp only [lLa, objZ_len, hp]) hj
   simp only [zAt] at this
   exact this
theorem famV_set {pre : Store} {p j N m : Nat} {f : Nat → Nat} (hp : pre.length = p) (hj : j < N) :
 (∀ b c, (pre ++ famV N f (fun i => if i = j then m else f i) 0 b c).set (p + j) (.own 1 m) = pre ++ famV N f (fun i => if i = j then m else f i) 1 b c) ∧ (∀ a c, (pre ++ famV N f (fun i => if i = j then m else f i) a 0 c).set (p + N + N + j) (.own 3 m) = pre ++ famV N f (fun i => if i = j then m else f i) a 1 c) ∧ ∀ a b, (pre ++ famV N f (fun i => if i = j then m else f i) a b 0).set (p + N + j) (.own 1 m) = pre ++ famV N f (fun i => if i = j then m else f i) a b 1 := by
 unfold famV
 refine ⟨fun b c => fs1 hp hj, fun a c => ?_, fun a b => ?_⟩
 · have := fs1 (pre := pre ++ objZ 1 (if a = 0 then f else fun i => if i = j then m else f i) N ++ objZ 1 (if c = 0 then f else fun i => if i = j then m else f i) N) (R := []) (p := p + N + N) (sz := 3) (f := f) (m := m) (by simp only [lLa, objZ_len, hp]) hj
   simp only [zBh, zAt] at this
   exact this
 · have := fs1 (pre := pre ++ objZ 1 (if a = 0 then f else fun i => if i = j then m else f i) N) (R := objZ 3 (if b = 0 then f else fun i => if i = j then m else f i) N) (p := p + N) (sz := 1) (f := f) (m := m) (by simp only [lLa, objZ_len, hp]) hj
   simp only [zAt] at this
   exact this
def preC (s : Score) (l : List Jo.Mark) (sec : Int) (N : Nat) (al : GB3) (m : List K3) (k : Nat) (c1 c2 c3 : List (List AV)) : Store :=
 [.var (encS s), .var (encW s l sec), .map (Go.Ab.encM ekT (evC N) (mapO al)), .arr 3 m.length (m.map encK), .arr 16 k c1, .arr 3 k c2, .arr 3 k c3, .own 3 0]
def keysO (al : GB3) : List K3 := al.map (·.1)
theorem okMapC {m N : Nat} {al : GB3} (h : ∀ p ∈ al, p.2.2 < N) (hm : 8 + N + N + N ≤ m) : okObj m (.map (Go.Ab.encM ekT (evC N) (mapO al))) = true := by
 show (Go.Ab.encM ekT (evC N) (mapO al)).all (fun kv => okRef m 3 kv.2) = true
 rw [zA8]; intro x hx
 obtain ⟨p, hp, rfl⟩ := zAi.1 hx
 obtain ⟨q, hq, rfl⟩ := zAi.1 hp
 have := h q hq
 show (decide (8 + q.2.2 < m) && (decide (8 + N + q.2.2 < m) && (decide (8 + N + N + q.2.2 < m) && true))) = true
 rw [decide_eq_true (by omega), decide_eq_true (by omega), decide_eq_true (by omega)]; rfl
theorem okArrK (m k : Nat) (l : List K3) : okObj m (.arr 3 k (l.map encK)) = true := by
 show (l.map encK).all (fun e => e.all (okRef m 3)) = true
 rw [zA8]; intro e he
 obtain ⟨n, _, rfl⟩ := zAi.1 he
 rfl
theorem GOk.lt {key : Note → K3} {bs : List Bow} {al : GB3} (h : GOk key bs al) {N : Nat} (hN : bs.length ≤ N) : ∀ p ∈ al, p.2.2 < N := fun p hp => by
 obtain ⟨j, hj⟩ := List.mem_iff_getElem?.1 hp
 rw [h.idx j p hj]
 have h1 := (zAf.1 hj).1
 have := h.len
 omega
theorem round_new {key : Note → K3} {bs : List Bow} {al : GB3} (h : GOk key bs al) {b : Bow} (hn : lk al (key b.note) = none) :
 ∃ al', addB key al b = al' ∧ keysO al' = keysO al ++ [key b.note] ∧ ins (mapO al) (key b.note) (some (([] : List Bow) ++ [b], al.length)) = mapO al' ∧ lenB al' = (fun i => if i = al.length then ([] : List Bow).length + 1 else lenB al i) ∧ lenB al al.length = ([] : List Bow).length ∧ al.length ≤ bs.length := by
 refine ⟨_, rfl, ?_, ?_, lenB_new h hn, ?_, h.len⟩
 · rw [(h.new hn).1]; unfold keysO; rw [zAe]; rfl
 · rw [ins_mapO]; unfold addB entB; rw [hn]; rfl
 · unfold lenB; rw [zA2 (nLr _)]; rfl
theorem round_old {key : Note → K3} {bs : List Bow} {al : GB3} (h : GOk key bs al) {b : Bow} {g : List Bow} {j : Nat} (hs : lk al (key b.note) = some (g, j)) :
 ∃ al', addB key al b = al' ∧ keysO al' = keysO al ∧ ins (mapO al) (key b.note) (some (g ++ [b], j)) = mapO al' ∧ lenB al' = (fun i => if i = j then g.length + 1 else lenB al i) ∧ lenB al j = g.length ∧ j < bs.length := by
 obtain ⟨h1, h2, _⟩ := h.old hs
 have hjl : j < al.length := (zAf.1 h1).1
 refine ⟨_, rfl, ?_, ?_, lenB_old h hs, ?_, by have := h.len; omega⟩
 · rw [h2]; unfold keysO
   rw [List.map_set]
   refine zCf fun i => ?_
   by_cases hij : j = i
   · subst hij
     rw [zAd (by rw [lLm]; exact hjl), zAa, h1]; rfl
   · rw [zAk hij]
 · rw [ins_mapO]; unfold addB entB; rw [hs]; rfl
 · unfold lenB; rw [h1]
theorem grp_lenB {key : Note → K3} {bs : List Bow} {al : GB3} (h : GOk key bs al) {k : K3} {g : List Bow} {j : Nat} (hs : lk al k = some (g, j)) : g.length ≤ bs.length := by
 obtain ⟨i, hi⟩ := lk_some_at hs
 have h1 := (h.grp _ (zAg hi)).1
 rw [show g = _ from h1]
 unfold grp; exact zB2 _ _
theorem dur_bow {s : Score} (h : scoreOk s = true) {l : List Jo.Mark} {sec : Int} {ex : List Int} {b : Bow} (hb : b ∈ bowsL s l sec ex) : durOk b.note.start = true ∧ durOk b.note.len = true := by
 obtain ⟨n, hn, _, _, e1, e2⟩ := seat_note (bow_seat hb)
 obtain ⟨_, _, _, d1, d2⟩ := note_formed h hn
 have e1 : b.note.start = n.start := e1
 have e2 : b.note.len = n.len := e2
 rw [e1, e2]; exact ⟨d1, d2⟩
theorem bc3_spec (v : Int) (g : List Bow) (h : g ≠ []) : PCall Tryz.prog 42 [.int v, .iptr (clE g)] (.b (v != (g.headD default).val)) := by
 obtain ⟨b, r, rfl⟩ : ∃ b r, g = b :: r := by
  cases g with
  | nil => exact absurd rfl h
  | cons b r => exact ⟨b, r, rfl⟩
 refine PCall.body Tryz.func42 rfl rfl Tryz.ntmps42 rfl rfl ?_
 repeat' (first | refine aoQ rfl rfl rfl (fun hg => by first | exact piW (l := b :: r) (f := fun b : Bow => eI b.val) tabOk rfl rfl nd rfl nd rfl rfl ⟨by decide, by simp only [zA5]; omega⟩ | exact std0 | exact std1) (by exact rfl) ?_ | refine sqW ?_ | refine rgK (fun K' hK => ?_) | (refine aoN (hK _ _ ?_); clear hK K') | refine aoE (bxW rfl rfl rfl rfl rfl tI rfl rfl ?_) | refine aoE (stW tabOk rfl rfl rfl tI rfl rfl tI rfl rfl rfl rfl rfl rfl rfl ?_) | refine aoE (alW tabOk rfl rfl rfl rfl rfl rfl ?_) | refine cdN rfl tI (fun hc => ?_) (fun hc => ?_) | refine blK ?_ | refine exW ?_ | refine skW ?_ | refine rtW ?_ | refine dK2 (by decide +kernel) (by kernel_rfl) (by decide +kernel) rfl (fun K' hK => ?_) | refine dL2 (by kernel_rfl) (by decide +kernel) rfl (fun K' hK => ?_) | (refine aqN (hK _ ?_); clear hK K') | refine aqN ?_ | refine aqQ rfl rfl (fun hg => by first | exact piW (l := b :: r) (f := fun b : Bow => eI b.val) tabOk rfl rfl nd rfl nd rfl rfl ⟨by decide, by simp only [zA5]; omega⟩ | exact std0 | exact std1) (by exact rfl) ?_)
 exact ⟨.inr rfl, Ent.b rfl⟩
end Go.Proofs.YtficfljjnbnhbaaGreatDoor.Bw
namespace Go.Proofs.YtficfljjnbnhbaaGreatDoor.Bw
open Go.Ab Mk
attribute [local irreducible] AWP AOps EStep AQ PStep PRun PCall TCall VCall DStep TDies AWD DCall
theorem ins_len {κ α : Type} [DecidableEq κ] {k : κ} (v : α) : ∀ {al : List (κ × α)}, (ins al k v).length = if (lk al k).isSome then al.length else al.length + 1
 | [] => rfl
 | (x, y) :: r => by
   simp only [ins, lk]
   split
   · rfl
   · rw [zA5, ins_len v, zA5]
     split <;> rfl
theorem lftM_some (ex : List Int) (id : Int) : (lk (lftM ex) id).isSome = decide (id ∈ ex) := by
 by_cases h : id ∈ ex
 · have := lftM_lk ex id
   rw [decide_eq_true h] at this
   rw [decide_eq_true h]
   cases hl : lk (lftM ex) id with
   | none => rw [hl] at this; cases this
   | some v => rfl
 · have : lk (lftM ex) id = none := lk_setL_no _ _ id fun p hp e => by
    obtain ⟨x, hx, rfl⟩ := zAi.1 hp
    exact h (e ▸ hx)
   rw [this, decide_eq_false h]; rfl
theorem lftM_len (ids : List Int) : ∀ k, k ≤ ids.length → (lftM (ids.take k)).length ≤ k ∧ ((lftM (ids.take k)).length = k ↔ (ids.take k).Nodup)
 | 0, _ => ⟨nLr _, by simp [lftM, setL]⟩
 | k + 1, h => by
   obtain ⟨h1, h2⟩ := lftM_len ids k (by omega)
   rw [lftM_succ (by omega), ins_len, lftM_some]
   have hn := nodup_succ (fun x : Int => x) ids k (by omega)
   simp only [List.map_id'] at hn
   rw [hn, ← h2]
   by_cases hm : ids.getD k default ∈ ids.take k
   · rw [decide_eq_true hm, if_pos rfl]
     exact ⟨by omega, fun e => by omega, fun e => absurd hm e.2⟩
   · rw [decide_eq_false hm, if_neg (by decide)]
     exact ⟨by omega, fun e => ⟨by omega, hm⟩, fun e => by omega⟩
theorem okMapM (m : Nat) (al : List (Int × Bool)) : okObj m (.map (Go.Ab.encM ekI AV.b al)) = true := by
 show (Go.Ab.encM ekI AV.b al).all (fun kv => okRef m 3 kv.2) = true
 rw [zA8]; intro x hx
 obtain ⟨p, _, rfl⟩ := zAi.1 hx
 rfl
set_option maxHeartbeats 8000000 in
set_option maxRecDepth 20000 in
theorem bMarks_spec (l : List Jo.Mark) (hl : l.length ≤ 9223372036854775807) (ht : TextsIn l) : PCall Tryz.prog 34 [.sl 10 (l.map encMk) .no] (.b (marksOk l)) := by
 have hw := hasM0_spec 79 (fun m => !Jo.markOk m) l hl (fun m hm => bm1_spec m (ht m hm))
 rw [findI_any'] at hw
 have hid : (l.map (·.id)).length = l.length := lLm ..
 refine PCall.body Tryz.func34 rfl rfl Tryz.ntmps34 rfl rfl ?_
 repeat' (first | refine aoQ rfl rfl rfl (fun hg => by first | exact std0 | exact std1) (by exact rfl) ?_ | refine sqW ?_ | refine rgK (fun K' hK => ?_) | (refine aoN (hK _ _ ?_); clear hK K') | refine aoE (EStep.makeMapRW tabOk rfl rfl rfl rfl rfl tI rfl ?_) | refine blK ?_)
 refine lpD (ι := Nat) (fun k => [(0, .sl 10 (l.map encMk) .no), (3, .map 0), (10, .sl 10 (l.map encMk) .no), (11, .int l.length), (12, .int k)]) (fun k => [.map (Go.Ab.encM ekI AV.b (lftM ((l.map (·.id)).take k)))])
  (fun k => k ≤ l.length) (fun k => l.length - k) 1 (fun _ => rfl) 0 (nZl _) ⟨rfl, rfl, rfl, rfl, rfl, tI⟩ rfl (fun _ _ => rfl) (fun k _ => by simp only [zBu, zC8, okMapM, zBm]) ?_
 intro k hk
 by_cases hlt : k < l.length
 · obtain ⟨m, hm⟩ : ∃ m, l.getD k default = m := ⟨_, rfl⟩
   have h1 := lftM_succ (ex := l.map (·.id)) (k := k) (by omega)
   have h2 : (l.map (·.id)).getD k default = m.id := by
    rw [getD_lt (by omega), zCo, ← getD_lt hlt, hm]
   rw [h2] at h1
   repeat' (first | refine aoQ rfl rfl rfl (fun hg => by first | exact iX encMk l ((k : Nat) : Int) hm (hb := by omega) | exact std0 | exact std1) (by exact rfl) ?_ | refine sqW ?_ | refine rgK (fun K' hK => ?_) | (refine aoN (hK _ _ ?_); clear hK K') | refine aoE (stW tabOk rfl rfl rfl tI rfl rfl tI rfl rfl rfl rfl rfl rfl rfl ?_) | refine aoE (alW tabOk rfl rfl rfl rfl rfl rfl ?_) | refine aoE (EStep.mapUpd (ek := ekI) (ev := AV.b) (v := true) (keyLaw_int (LOk.of (tabOk.get rfl))) (LOk.of (tabOk.get rfl)) rfl rfl rfl (Rd.w rfl tI) rfl (Rd.w rfl tI) rfl (Rd.w rfl tI) ?_) | refine cdN rfl tI (fun hc => ?_) (fun hc => ?_) | refine blK ?_ | refine exW ?_ | refine skW ?_)
   all_goals (first | exact dd | skip)
   exact ⟨k + 1, hlt, by show l.length - (k + 1) < l.length - k; omega, ⟨rfl, rfl, rfl, rfl, rfl, tI⟩, by show _ = [AObj.map (Go.Ab.encM ekI AV.b (lftM ((l.map (·.id)).take (k + 1))))]; rw [h1]; rfl⟩
 · obtain rfl : k = l.length := by omega
   have hln := lftM_len (l.map (·.id)) l.length (by omega)
   have htk : (l.map (·.id)).take l.length = l.map (·.id) := zAu (by omega)
   rw [htk] at hln ⊢
   have hr : marksOk l = ((decide ((l.length : Int) ≤ 20000) && (((lftM (l.map (·.id))).length : Int) == (l.length : Int))) && !l.any fun m => !Jo.markOk m) := by
    unfold marksOk
    have e1 : l.all Jo.markOk = !l.any fun m => !Jo.markOk m := by
     rw [List.all_eq_not_any_not]
    rw [e1, zAs]
    simp only [zA0, dEt, beq_iff_eq]
    have e2 : (((lftM (l.map (·.id))).length : Nat) : Int) = ((l.length : Nat) : Int) ↔ (l.map (·.id)).Nodup := by rw [← hln.2]; omega
    rw [e2]
    constructor
    · rintro ⟨⟨a, b⟩, c⟩; exact ⟨⟨by omega, b⟩, a⟩
    · rintro ⟨⟨a, b⟩, c⟩; exact ⟨⟨c, b⟩, by omega⟩
   rw [hr]
   generalize lftM (l.map (·.id)) = al at *
   repeat' (first | refine aoQ rfl rfl rfl (fun hg => by first | exact std0 | exact pcW (hw) rfl rfl nd rfl nds | exact PRun.lenMap (ek := ekI) (ev := AV.b) rfl (Rd.w rfl nd) (Or.inr ⟨_, rfl, rfl⟩) (LOk.of (tabOk.get rfl)) | exact std1) (by exact rfl) ?_ | refine sqW ?_ | refine rgK (fun K' hK => ?_) | (refine aoN (hK _ _ ?_); clear hK K') | refine aoE (stW tabOk rfl rfl rfl tI rfl rfl tI rfl rfl rfl rfl rfl rfl rfl ?_) | refine aoE (alW tabOk rfl rfl rfl rfl rfl rfl ?_) | refine cdN rfl tI (fun hc => ?_) (fun hc => ?_) | refine blK ?_ | refine exW ?_ | refine skW ?_ | refine rtW ?_)
   all_goals (first | exact dd | skip)
   exact ⟨.inr rfl, Ent.b rfl⟩
end Go.Proofs.YtficfljjnbnhbaaGreatDoor.Bw
namespace Go.Proofs.YtficfljjnbnhbaaGreatDoor.Bw
open Go.Ab Go.Sort Mk
attribute [local irreducible] AWP AOps EStep AQ PStep PRun PCall TCall VCall DStep TDies AWD DCall
theorem entT0 (e : Int) : Ent (.tup [.nils, .int e]) (tupC ([], e)) := Ent.tup rfl fun i u v hu hv => by
 match i, hu, hv with
 | 0, hu, hv => cases hu; cases hv; exact Ent.nil
 | 1, hu, hv => cases hu; cases hv; exact Ent.rfl' _
 | i + 2, hu, hv => cases hu
theorem nE_snoc0 (g : List Bow) (b : Bow) : nE g ++ [eI b.note.id] = nE (g ++ [b]) := by unfold nE; rw [zAe]; rfl
theorem vE_snoc0 (g : List Bow) (b : Bow) : vE g ++ [eI b.val] = vE (g ++ [b]) := by unfold vE; rw [zAe]; rfl
theorem rE_snoc0 (g : List Bow) (b : Bow) : rE g ++ [encRd b.rdr] = rE (g ++ [b]) := by unfold rE; rw [zAe]; rfl
theorem nE_len0 (g : List Bow) : (nE g).length = g.length := lLm ..
theorem vE_len0 (g : List Bow) : (vE g).length = g.length := lLm ..
theorem rE_len0 (g : List Bow) : (rE g).length = g.length := lLm ..
def cE (N j : Nat) (t : Nat → Tok) (g : List Bow) : List AV := [.sl 1 (nE g) (t (8 + j)), .sl 1 (vE g) (t (8 + N + j)), .sl 3 (rE g) (t (8 + N + N + j))]
def cJ (N j : Nat) (t : Nat → Tok) (g g' : List Bow) : Nat → List AV
 | 1 => [.sl 1 (nE g') (.own (8 + j)), .sl 1 (vE g) (t (8 + N + j)), .sl 3 (rE g) (t (8 + N + N + j))]
 | 2 => [.sl 1 (nE g') (.own (8 + j)), .sl 1 (vE g) (t (8 + N + j)), .sl 3 (rE g') (.own (8 + N + N + j))]
 | 3 => [.sl 1 (nE g') (.own (8 + j)), .sl 1 (vE g') (.own (8 + N + j)), .sl 3 (rE g') (.own (8 + N + N + j))]
 | _ => [.sl 1 (nE g) (t (8 + j)), .sl 1 (vE g) (t (8 + N + j)), .sl 3 (rE g) (t (8 + N + N + j))]
def cls14 (o : Oper) : Nat := match o.op, o.dst with
 | .call _, some d => (([81, 87, 93].idxOf? d).map (· + 1)).getD 0
 | .store _ _ _, _ => 4
 | _, _ => 0
theorem round_any {key : Note → K3} {bs : List Bow} {al : GB3} (h : GOk key bs al) (b : Bow) (N : Nat) (hN : bs.length < N) : ∃ (g : List Bow) (j : Nat) (t : Nat → Tok) (old : Bool) (al' : GB3), addB key al b = al' ∧
 (∀ M B x, VRel M B (.tup [evC N ((lk (mapO al) (key b.note)).getD none), .b (lk (mapO al) (key b.note)).isSome]) x → VRel M B (.tup [.agg (cE N j t g), .b old]) x) ∧
 (∀ l, t l = .own l ∨ g = [] ∧ t l = .fresh) ∧ keysO al' = (if old then keysO al else keysO al ++ [key b.note]) ∧ ins (mapO al) (key b.note) (some (g ++ [b], j)) = mapO al' ∧
 lenB al' = (fun i => if i = j then g.length + 1 else lenB al i) ∧ lenB al j = g.length ∧ j < N ∧ g.length ≤ bs.length := by
 rw [lk_mapO]
 cases hl : lk al (key b.note) with
 | none =>
   obtain ⟨al', e1, e2, e3, e4, e5, e6⟩ := round_new h hl
   refine ⟨[], al.length, fun _ => .fresh, false, al', e1, fun M B x hx => ?_, fun _ => .inr ⟨rfl, rfl⟩, e2, e3, e4, e5, by omega, nZl _⟩
   cases hx with
   | tup _ vs hs hv =>
     refine .tup _ vs hs fun i c hi => ?_
     match i, hi with
     | 0, hi =>
       cases hi
       have h0 := hv 0 _ rfl
       generalize vs.getD 0 undef = y at h0 ⊢
       cases h0 with
       | agg _ ws hs hw =>
         refine .agg _ ws hs fun i c hi => ?_
         match i, hi with
         | 0, hi =>
           cases hi
           have h9 := hw 0 _ rfl
           generalize ws.getD 0 undef = z at h9 ⊢
           cases h9; exact .slz 1 .fresh rfl
         | 1, hi =>
           cases hi
           have h9 := hw 1 _ rfl
           generalize ws.getD 1 undef = z at h9 ⊢
           cases h9; exact .slz 1 .fresh rfl
         | 2, hi =>
           cases hi
           have h9 := hw 2 _ rfl
           generalize ws.getD 2 undef = z at h9 ⊢
           cases h9; exact .slz 3 .fresh rfl
         | i + 3, hi => cases hi
     | 1, hi => exact hv 1 c hi
     | i + 2, hi => cases hi
 | some p =>
   obtain ⟨g, j⟩ := p
   obtain ⟨al', e1, e2, e3, e4, e5, e6⟩ := round_old h hl
   exact ⟨g, j, Tok.own, true, al', e1, fun M B x hx => hx, fun _ => .inl rfl, e2, e3, e4, e5, by omega, grp_lenB h hl⟩
theorem keysO_len (al : GB3) : (keysO al).length = al.length := lLm ..
theorem AWP.kS {P : Program} {n : Nat} {c : Code} {K : Exit → Env → Store → Prop} {env : Env} {σ : Store} (d : Nat) {m : Nat} {es : List (List AV)} (hd : env d = kS m) (hσ : σ[3]? = some (.arr 3 m es)) (hk : AWP P n c K (env.put d (.sla 3 3 0 m m)) σ) : AWP P n c K env σ := by
 cases m with
 | zero => exact AWP.slaNil d 3 hd hσ hk
 | succ m =>
   have e : env.put d (.sla 3 3 0 (m + 1) (m + 1)) = env := by
    funext i
    unfold Env.put
    by_cases hi : i = d
    · rw [if_pos hi, hi, hd]; rfl
    · rw [if_neg hi]
   rwa [e] at hk
theorem evC_weak (N : Nat) (a : Option (List Bow × Nat)) (M : Mem) (B : List GB) (x : Value) (h : VRel M B (evC N a) x) : VRel M B (evD (a.map (·.1))) x := by
 cases a with
 | none => exact h
 | some p =>
   obtain ⟨g, j⟩ := p
   cases h with
   | agg _ ws hs hw =>
     refine .agg _ ws hs fun i c hi => ?_
     match i, hi with
     | 0, hi => cases hi; exact VRel.unown (hw 0 _ rfl)
     | 1, hi => cases hi; exact VRel.unown (hw 1 _ rfl)
     | 2, hi => cases hi; exact VRel.unown (hw 2 _ rfl)
     | i + 3, hi => cases hi
def mapD (al : GB3) : List (K3 × Option (List Bow)) := al.map fun p => (p.1, some p.2.1)
theorem mapO_D (al : GB3) : (mapO al).map (fun p => (p.1, p.2.map (·.1))) = mapD al := by
 unfold mapO mapD; rw [zC6]; rfl
theorem lk_mapD (al : GB3) (k : K3) : lk (mapD al) k = (lk al k).map fun p => some p.1 := by
 unfold mapD
 induction al with
 | nil => rfl
 | cons p r ih =>
   simp only [zAz, lk]
   split
   · rfl
   · exact ih
theorem okMapD (m : Nat) (al : GB3) : okObj m (.map (Go.Ab.encM ekT evD (mapD al))) = true := by
 show (Go.Ab.encM ekT evD (mapD al)).all (fun kv => okRef m 3 kv.2) = true
 rw [zA8]; intro x hx
 obtain ⟨p, hp, rfl⟩ := zAi.1 hx
 obtain ⟨q, hq, rfl⟩ := zAi.1 hp
 rfl
def tkO : List (List Bow) → Tok
 | [] => .fresh
 | _ :: _ => .own 7
theorem tkO_ok {m : Nat} (h : 7 < m) (A : List (List Bow)) : okRef m 4 (.sl 3 (A.map clE) (tkO A)) = true := by
 cases A
 · rfl
 · exact decide_eq_true h
theorem tkO_app (A : List (List Bow)) (g : List Bow) : tkO (A ++ [g]) = .own 7 := by cases A <;> rfl
theorem tkO_or (A : List (List Bow)) : tkO A = .own 7 ∨ A.map clE = [] ∧ tkO A = .fresh := by
 cases A
 · exact .inr ⟨rfl, rfl⟩
 · exact .inl rfl
def outK (key : Note → K3) (bs : List Bow) (ks : List K3) (i : Nat) : List (List Bow) := ((ks.take i).map (grp key bs)).filter differs
theorem outK_step {key : Note → K3} {bs : List Bow} {ks : List K3} {i : Nat} (h : i < ks.length) {k : K3} (hk : ks.getD i default = k) :
 outK key bs ks (i + 1) = if differs (grp key bs k) = true then outK key bs ks i ++ [grp key bs k] else outK key bs ks i := by
 unfold outK
 rw [takeS' h, hk, zAe, zBa]
 split
 · rename_i h1
   rw [zAz, zD9, zB3 h1, zC0]
 · rename_i h1
   rw [zAz, zD9, zB8 h1, zC0, zBh]
theorem outK_len (key : Note → K3) (bs : List Bow) (ks : List K3) (i : Nat) : (outK key bs ks i).length ≤ i := by
 unfold outK
 refine zBb (zB2 _ _) ?_
 rw [lLm, zAc]; omega
theorem outK_all (key : Note → K3) (bs : List Bow) : outK key bs (keysB key bs) (keysB key bs).length = clashL key bs := by
 unfold outK clashL clashG
 rw [zAr]
def postC (s : Score) (l : List Jo.Mark) (sec : Int) (al : GB3) (ks : List K3) (a v : Nat) (c1 c2 c3 : List (List AV)) (A : List (List Bow)) : Store :=
 [.var (encS s), .var (encW s l sec), .map (Go.Ab.encM ekT evD (mapD al)), .arr 3 ks.length (ks.map encK), .arr 16 a c1, .arr 3 v c2, .arr 3 v c3, .own 3 (A.map clE).length]
theorem diff_spec (g : List Bow) (h : g ≠ []) (hl : g.length ≤ 9223372036854775807) : PCall Tryz.prog 36 [.sl 1 (vE g) .no, .fn (.func 42) [] [.iptr (clE g)]] (.b (differs g)) := by
 have h1 := hasI1_spec 42 (clE g) (fun v => v != (g.headD default).val) (g.map (·.val)) (by rw [lLm]; exact hl) (fun v _ => bc3_spec v g h)
 rw [findI_any', List.any_map, zC6] at h1
 exact h1
end Go.Proofs.YtficfljjnbnhbaaGreatDoor.Bw
