/- Contracts by content: align: bare, compare, music.  Alignments in plain words: sorted music, pairs that are in order, tables that prove.  Alignments in plain words: as the reference finds which notes belong together; what an iterator over free notes yields.  Regions that draw their order, with two chains of effects that may come in any order with one another. Notes by score and bar: a map of slices that grow. Rules and plain facts. No statement is proved here. -/
import Derived.Test.YtekfpcgagoidcaaGreatDoorU4
import Derived.Test.YtekfpcgagoidcaaGreatDoorU11
import Derived.Test.YtekfpcgagoidcaaGreatDoorU12
import Derived.Test.YtekfpcgagoidcaaGreatDoorU14
set_option linter.unusedVariables false
set_option linter.unusedSimpArgs false
namespace Go.Ab
theorem EStep.appendArr' {P : Program} {n : Nat} {ops : Array Oper} {o : Oper} {env : Env} {σ : Store} {T : Tab} {k : Env → Store → Prop} (hT : T.Ok P) {s x : Operand} {t tx e : TypeId} {d l sz ver m : Nat} {es es2 es3 : List (List AV)} {u S : AV} {s1 b1 : Nat} {z : List Z} {le : LI} (ho : o.op = .call { callee := .builtin .append, args := #[s, x], argTypes := #[t, tx] })
 (hg : o.guard = none) (hd : o.dst = some d) (hdn : d < n) (hs : Rd env s S) (hS0 : S = .sla l sz 0 es.length ver ∧ es ≠ [] ∨ S = .sl sz [] (.own l) ∧ es = [] ∧ ver = 0) (hσ : σ[l]? = some (.arr sz ver es)) (hx : Rd env x u) (hsrc : AppSrc T tx sz u es2) (hpos : 0 < es2.length)
 (hl : LOk P t ⟨.slice e, s1, b1, z⟩) (he : LOk P e le) (hsz : le.size = sz) (hz0 : le.zero.length = le.size) (hbound : (es.length + es2.length) * le.bytes ≤ 140737488355328) (hb2 : es.length + es2.length ≤ 9223372036854775807) (hm : es.length + es2.length = m) (h3 : es ++ es2 = es3)
 (hk : k (env.put d (.sla l sz 0 m (ver + 1))) (σ.set l (.arr sz (ver + 1) es3))) : EStep P n ops o k env σ := by
 subst hm; subst h3
 exact EStep.appendArr hT ho hg hd hdn hs hS0 hσ hx hsrc hpos hl he hsz hz0 hbound hb2 hk
end Go.Ab
namespace Go.Proofs.YtekfpcgagoidcaaGreatDoor.Al
open Go.Ab Go.Sort
attribute [local irreducible] AWP AOps EStep AQ PStep PRun PCall TCall VCall
theorem bare_spec (n : Note) : PCall Tryz.prog 62 [.agg (encN n)] (.agg (encN (bareN n))) := by
 refine PCall.bodyS tabOk Tryz.func62 rfl rfl Tryz.ntmps62 rfl ?_
 repeat' (first | refine aoQ rfl rfl rfl (fun hg => by exact std0) (by exact rfl) ?_ | refine sqW ?_ | refine rgK (fun K' hK => ?_) | (refine aoN (hK _ _ ?_); clear hK K') | refine aoE (bxW rfl rfl rfl rfl rfl tI rfl rfl ?_) | refine aoE (stW tabOk rfl rfl rfl tI rfl rfl tI rfl rfl rfl rfl rfl rfl rfl ?_) | refine aoE (alW tabOk rfl rfl rfl rfl rfl rfl ?_) | refine rtW ?_)
 exact ⟨.inr rfl, _, rfl, Ent.of rfl⟩
def keyB (n : Note) : List Int := [n.part, n.voice, n.ossia, n.start.n, n.start.d, n.len.n, n.len.d, n.pitch.step, n.pitch.alter, n.pitch.oct]
def bIn (n : Note) : Prop := ∀ x ∈ keyB n, -1000000000000000000 ≤ x ∧ x ≤ 1000000000000000000
instance (n : Note) : Decidable (bIn n) := by unfold bIn; infer_instance
theorem bIn_bare {n : Note} (h : bIn n) : bIn (bareN n) := h
def fixB (n : Note) : Note := if bIn n then n else ⟨0, 0, 0, 0, 0, ⟨0, 0⟩, ⟨0, 0⟩, ⟨0, 0, 0⟩⟩
theorem fixB_in (n : Note) : bIn (fixB n) := by
 unfold fixB; split
 · assumption
 · decide
theorem fixB_eq {n : Note} (h : bIn n) : fixB n = n := if_pos h
def encVB (n : Note) : List Value := let m := fixB n; [.int .i64 m.id, .int .i64 m.part, .int .i64 m.bar, .int .i64 m.voice, .int .i64 m.ossia, .int .i64 m.start.n, .int .i64 m.start.d, .int .i64 m.len.n, .int .i64 m.len.d, .int .i64 m.pitch.step, .int .i64 m.pitch.alter, .int .i64 m.pitch.oct]
theorem encVB_enc (n : Note) : (encVB n).map AV.prim = encN (fixB n) := rfl
def cmpB (x y : Note) : Int := cmpK (keyB x) (keyB y)
set_option maxHeartbeats 4000000 in
theorem compare_spec (x y : Note) (hx : bIn x) (hy : bIn y) : PCall Tryz.prog 114 [.agg (encN x), .agg (encN y)] (.int (cmpB x y)) := by
 have a := fun v h => hx v h
 have b := fun v h => hy v h
 simp only [keyB, zB6, zCa, or_false, forall_eq_or_imp, forall_eq] at a b
 obtain ⟨a0, a1, a2, a3, a4, a5, a6, a7, a8, a9⟩ := a
 obtain ⟨b0, b1, b2, b3, b4, b5, b6, b7, b8, b9⟩ := b
 have ho := or_spec [x.part - y.part, x.voice - y.voice, x.ossia - y.ossia, x.start.n - y.start.n, x.start.d - y.start.d, x.len.n - y.len.n, x.len.d - y.len.d, x.pitch.step - y.pitch.step, x.pitch.alter - y.pitch.alter, x.pitch.oct - y.pitch.oct] (by simp)
 refine PCall.body Tryz.func114 rfl rfl Tryz.ntmps114 rfl rfl ?_
 repeat' (first | refine aoQ rfl rfl rfl (fun hg => by first | exact std0 | exact pbS (r := .sl 1 [[.int (x.part - y.part)], [.int (x.voice - y.voice)], [.int (x.ossia - y.ossia)], [.int (x.start.n - y.start.n)], [.int (x.start.d - y.start.d)], [.int (x.len.n - y.len.n)], [.int (x.len.d - y.len.d)], [.int (x.pitch.step - y.pitch.step)], [.int (x.pitch.alter - y.pitch.alter)], [.int (x.pitch.oct - y.pitch.oct)]] .fresh) tabOk rfl (by kernel_rfl) nds | exact pcW (ho) rfl rfl nd rfl nds) (by exact rfl) ?_ | refine sqW ?_ | refine rgK (fun K' hK => ?_) | (refine aoN (hK _ _ ?_); clear hK K') | refine aoE (bxW rfl rfl rfl rfl rfl tI rfl rfl ?_) | refine rtW ?_)
 exact ⟨.inr rfl, Ent.int rfl⟩
theorem ltB (f : Note → Note) (x y : Note) : Go.Proofs.ltOf (fun x y : Note => cmpB (f x) (f y)) x y = true ↔ cmpK (keyB (f x)) (keyB (f y)) < 0 := decide_eq_true_iff
theorem ltB' (f : Note → Note) (x y : Note) : Go.Proofs.ltOf (fun x y : Note => cmpB (f x) (f y)) x y = false ↔ ¬ cmpK (keyB (f x)) (keyB (f y)) < 0 := dEf
theorem swoB (f : Note → Note) : SWO (Go.Proofs.ltOf fun x y : Note => cmpB (f x) (f y)) where
 irrefl x := by
  have := cmpK_anti (keyB (f x)) (keyB (f x))
  rw [ltB']; omega
 trans x y z h1 h2 := by
  rw [ltB] at *
  exact cmpK_lt (a := keyB (f x)) (b := keyB (f y)) (c := keyB (f z)) rfl rfl h1 h2
 ntrans x y z h1 h2 := by
  have a1 := cmpK_anti (keyB (f x)) (keyB (f y))
  have a2 := cmpK_anti (keyB (f y)) (keyB (f z))
  have a3 := cmpK_anti (keyB (f x)) (keyB (f z))
  rw [ltB'] at *
  have := cmpK_le (a := keyB (f z)) (b := keyB (f y)) (c := keyB (f x)) rfl rfl (by omega) (by omega)
  omega
def sortB (l : List Note) : List Note := sortL (fun x y => cmpB (fixB x) (fixB y)) l
theorem sortB_len (l : List Note) : (sortB l).length = l.length := by
 have := (sortL_spec _ (swoB fixB) l).1.1
 simpa [sortB] using this
theorem sortB_perm (l : List Note) : (sortB l).Perm l := by
 have h := (sortL_spec _ (swoB fixB) l).1.2.2
 have hl := sortB_len l
 rw [← hl] at h
 unfold sortB at h hl ⊢
 simp only [zCd, List.extract_toArray, List.extract_eq_take_drop, Nat.sub_zero, zD9] at h
 rw [zAt (nLr _), hl, zAt (nLr _)] at h
 exact h
theorem sortB_enc {l : List Note} (h : ∀ n ∈ l, bIn n) : (sortB l).map (fun x => (encVB x).map AV.prim) = (sortB l).map encN := by
 refine zCu fun x hx => ?_
 rw [encVB_enc, fixB_eq (h x ((sortB_perm l).mem_iff.1 hx))]
theorem encB_fix {l : List Note} (h : ∀ n ∈ l, bIn n) : l.map (fun x => (encVB x).map AV.prim) = l.map encN := by
 refine zCu fun x hx => ?_
 rw [encVB_enc, fixB_eq (h x hx)]
theorem fnOk_compare : FnOk Tryz.prog 114 := ⟨_, Tryz.func114, rfl, rfl⟩
theorem sortBT (l : List Note) (hl : l.length ≤ 1000000000) (hin : ∀ n ∈ l, bIn n) (ver : Nat) :
 TCall Tryz.prog 113 [.sla 0 12 0 l.length ver, .fn (.func 114) [] []] [.arr 12 ver (l.map encN)]
  (fun r s => r = .tup [] ∧ s = [.arr 12 ver ((sortB l).map encN)]) := by
 have h := TCall.sortA (P := Tryz.prog) (ρ := Tryz.sortNote_ren) Tryz.sortNote (sz := 12) Tryz.isAgg56 Tryz.sizeOf56 encVB (fun _ => rfl) (fun x v hv => by
  simp only [encVB, zB6, zCa, or_false] at hv
  rcases hv with rfl | rfl | rfl | rfl | rfl | rfl | rfl | rfl | rfl | rfl | rfl | rfl <;> rfl)
  (fun x y => cmpB (fixB x) (fixB y)) (swoB fixB) (g := 114) (caps := []) (σ := [.arr 12 ver (l.map encN)]) fnOk_sort fnOk_compare
  (fun x y => compare_spec (fixB x) (fixB y) (fixB_in x) (fixB_in y)) (l := 0) (ver := ver) (xs := l) (by rw [encB_fix hin]; rfl) (by omega)
 refine TCall.mono h ?_
 rintro r s ⟨h1, h2⟩
 refine ⟨h1, ?_⟩
 rw [h2]
 show [AObj.arr 12 ver ((sortB l).map fun x => (encVB x).map AV.prim)] = _
 rw [sortB_enc hin]
def musL (l : List Note) : List Note := sortB (l.map bareN)
theorem musL_len (l : List Note) : (musL l).length = l.length := by unfold musL; rw [sortB_len, lLm]
theorem takeS {α : Type} [Inhabited α] {l : List α} {k : Nat} (h : k < l.length) : l.take (k + 1) = l.take k ++ [l.getD k default] := by rw [List.take_add_one]; simp [List.getD, h]
theorem okArrN (m k : Nat) (l : List Note) : okObj m (.arr 12 k (l.map encN)) = true := by
 show (l.map encN).all (fun e => e.all (okRef m 3)) = true
 rw [zA7]
 intro e he
 obtain ⟨n, _, rfl⟩ := zAu.1 he
 rfl
def mS : Nat → AV
 | 0 => .sl 12 [] (.own 0)
 | k + 1 => .sla 0 12 0 (k + 1) (k + 1)
set_option maxHeartbeats 4000000 in
theorem music_spec (l : List Note) (hl : l.length ≤ 1000000) (hin : ∀ n ∈ l, bIn n) : PCall Tryz.prog 85 [.sl 12 (l.map encN) .no] (.sl 12 ((musL l).map encN) .no) := by
 by_cases h0 : l = []
 · subst h0
   have hs0 := fun u => PCall.sort0 (P := Tryz.prog) (ρ := Tryz.sortNote_ren) Tryz.sortNote fnOk_sort u
   refine PCall.body Tryz.func85 rfl rfl Tryz.ntmps85 rfl rfl ?_
   repeat' (first | refine aoQ rfl rfl rfl (fun hg => by first | exact std0 | exact std1) (by exact rfl) ?_ | refine sqW ?_ | refine rgK (fun K' hK => ?_) | (refine aoN (hK _ _ ?_); clear hK K') | refine blK ?_)
   refine lpD (ι := Unit) (fun _ => [(3, .nils), (6, .sl 12 [] .no), (7, .int 0), (8, .int 0)]) (fun _ => []) (fun _ => True) (fun _ => 0) 0 (fun _ => rfl) () tI ⟨rfl, rfl, rfl, rfl, tI⟩ rfl (fun _ _ => rfl) (fun _ _ => rfl) ?_
   rintro ⟨⟩ _
   repeat' (first | refine aoQ rfl rfl rfl (fun hg => by first | exact std0 | exact pcW (hs0 _) rfl rfl nd rfl nds) (by exact rfl) ?_ | refine sqW ?_ | refine rgK (fun K' hK => ?_) | (refine aoN (hK _ _ ?_); clear hK K') | refine cdN rfl tI (fun hc => ?_) (fun hc => ?_) | refine blK ?_ | refine exW ?_ | refine skW ?_ | refine rtW ?_)
   all_goals (first | (exfalso; omega) | (exfalso; simp at hc; done) | skip)
   refine ⟨.inr rfl, ?_⟩
   rw [zB0 (musL_len [])]
   exact Ent.nil
 · have hb : ∀ n ∈ l.map bareN, bIn n := fun n hn => by
    obtain ⟨m, hm, rfl⟩ := zAu.1 hn
    exact bIn_bare (hin m hm)
   have hs := TCall.val (first := []) (caps := []) (avs := [.sla 0 12 0 (l.map bareN).length l.length, .fn (.func 114) [] []]) (sortBT (l.map bareN) (by simp; omega) hb l.length)
   rw [lLm] at hs
   refine PCall.body Tryz.func85 rfl rfl Tryz.ntmps85 rfl rfl ?_
   repeat' (first | refine aoQ rfl rfl rfl (fun hg => by first | exact std0 | exact std1) (by exact rfl) ?_ | refine sqW ?_ | refine rgK (fun K' hK => ?_) | (refine aoN (hK _ _ ?_); clear hK K') | refine blK ?_)
   refine AWP.arrNil 12 (d := 3) rfl ?_
   refine lpD (ι := Nat) (fun k => [(3, mS k), (6, .sl 12 (l.map encN) .no), (7, .int l.length), (8, .int k)]) (fun k => [.arr 12 k (((l.take k).map bareN).map encN)])
    (fun k => k ≤ l.length) (fun k => l.length - k) 1 (fun _ => rfl) 0 (nZl _) ⟨rfl, rfl, rfl, rfl, tI⟩ rfl (fun k _ => by cases k <;> rfl) (fun k _ => by simp only [zBg, zBl, Bool.and_true]; exact okArrN _ _ _) ?_
   intro k hk
   by_cases hlt : k < l.length
   · obtain ⟨n, hn⟩ : ∃ n, l.getD k default = n := ⟨_, rfl⟩
     have e3 : ((l.take k).map bareN).map encN ++ [encN (bareN n)] = ((l.take (k + 1)).map bareN).map encN := by
      rw [takeS hlt, hn]; simp
     have em : (((l.take k).map bareN).map encN).length = k := by simp; omega
     have b1 := bare_spec n
     rcases zBd k with hk0 | hk0
     · have es : mS k = .sl 12 [] (.own 0) := by rw [hk0]; rfl
       rw [es]
       repeat' (first | refine aoQ rfl rfl rfl (fun hg => by first | exact iX encN l ((k : Nat) : Int) hn (hb := by omega) | exact std0 | exact pcW (b1) rfl rfl nd rfl nds | exact pbS tabOk rfl rfl nds) (by exact rfl) ?_ | refine sqW ?_ | refine rgK (fun K' hK => ?_) | (refine aoN (hK _ _ ?_); clear hK K') | refine aoE (stW tabOk rfl rfl rfl tI rfl rfl tI rfl rfl rfl rfl rfl rfl rfl ?_) | refine aoE (alW tabOk rfl rfl rfl rfl rfl rfl ?_) | refine aoE (EStep.appendArr' (m := k + 1) (es3 := ((l.take (k + 1)).map bareN).map encN) tabOk rfl rfl rfl (by decide) (Rd.w rfl tI) (.inr ⟨rfl, by rw [hk0]; rfl, hk0⟩) rfl (Rd.w rfl tI) (.sl rfl (by intro x hx; rcases zAn.1 hx with rfl; rfl)) (zAd _) (LOk.of (tabOk.get rfl)) (LOk.of (tabOk.get rfl)) rfl rfl (by rw [em]; simp only [zA8, zAg]; omega) (by rw [em]; simp only [zA8, zAg]; omega) (by rw [em]; rfl) e3 ?_) | refine cdN rfl tI (fun hc => ?_) (fun hc => ?_) | refine blK ?_ | refine exW ?_ | refine skW ?_)
       all_goals (first | (exfalso; omega) | skip)
       exact ⟨k + 1, by omega, by omega, ⟨(by rw [hk0]; rfl), rfl, rfl, rfl, tI⟩, rfl⟩
     · have es : mS k = .sla 0 12 0 k k := by cases k with | zero => omega | succ k => rfl
       rw [es]
       repeat' (first | refine aoQ rfl rfl rfl (fun hg => by first | exact iX encN l ((k : Nat) : Int) hn (hb := by omega) | exact std0 | exact pcW (b1) rfl rfl nd rfl nds | exact pbS tabOk rfl rfl nds) (by exact rfl) ?_ | refine sqW ?_ | refine rgK (fun K' hK => ?_) | (refine aoN (hK _ _ ?_); clear hK K') | refine aoE (stW tabOk rfl rfl rfl tI rfl rfl tI rfl rfl rfl rfl rfl rfl rfl ?_) | refine aoE (alW tabOk rfl rfl rfl rfl rfl rfl ?_) | refine aoE (EStep.appendArr' (m := k + 1) (es3 := ((l.take (k + 1)).map bareN).map encN) tabOk rfl rfl rfl (by decide) (Rd.w rfl tI) (.inl ⟨by rw [em], by intro h; rw [h] at em; exact absurd em (by simp only [zAg]; omega)⟩) rfl (Rd.w rfl tI) (.sl rfl (by intro x hx; rcases zAn.1 hx with rfl; rfl)) (zAd _) (LOk.of (tabOk.get rfl)) (LOk.of (tabOk.get rfl)) rfl rfl (by rw [em]; simp only [zA8, zAg]; omega) (by rw [em]; simp only [zA8, zAg]; omega) (by rw [em]; rfl) e3 ?_) | refine cdN rfl tI (fun hc => ?_) (fun hc => ?_) | refine blK ?_ | refine exW ?_ | refine skW ?_)
       all_goals (first | (exfalso; omega) | skip)
       exact ⟨k + 1, by omega, by omega, ⟨rfl, rfl, rfl, rfl, tI⟩, rfl⟩
   · obtain rfl : k = l.length := by omega
     rw [zB9]
     obtain ⟨m, hm⟩ : ∃ m, l.length = m + 1 := ⟨l.length - 1, by have : l.length ≠ 0 := fun h => h0 (zB0 h); omega⟩
     have em : mS l.length = .sla 0 12 0 l.length l.length := by rw [hm]; rfl
     rw [em]
     repeat' (first | refine aoQ rfl rfl rfl (fun hg => by first | exact std0 | exact std1) (by exact rfl) ?_ | refine sqW ?_ | refine rgK (fun K' hK => ?_) | (refine aoN (hK _ _ ?_); clear hK K') | refine aoE (stW tabOk rfl rfl rfl tI rfl rfl tI rfl rfl rfl rfl rfl rfl rfl ?_) | refine aoE (alW tabOk rfl rfl rfl rfl rfl rfl ?_) | refine aoE (scT (hs) rfl rfl rfl rfl rfl nd rfl rfl nds ?_) | refine cdN rfl tI (fun hc => ?_) (fun hc => ?_) | refine blK ?_ | refine exW ?_ | refine skW ?_)
     all_goals (first | (exfalso; omega) | skip)
     rintro r s ⟨rfl, rfl⟩
     repeat' (first | refine aoQ rfl rfl rfl (fun hg => by exact std0) (by exact rfl) ?_ | refine sqW ?_ | refine rgK (fun K' hK => ?_) | (refine aoN (hK _ _ ?_); clear hK K'))
     refine AWP.freezeA (d := 2) (l := 0) (sz := 12) (ver := l.length) (es := (musL l).map encN) (by show AV.sla 0 12 0 l.length l.length = _; rw [lLm, musL_len]) rfl (pureN _) ?_
     refine rtW ⟨.inr rfl, ?_⟩
     exact fun _ _ h => h
end Go.Proofs.YtekfpcgagoidcaaGreatDoor.Al
namespace Go.Proofs.YtekfpcgagoidcaaGreatDoor.Al
open Go.Ab Go.Sort
theorem perm_sorted {α : Type} {le : α → α → Prop} : ∀ {l m : List α}, (∀ a ∈ l, ∀ b ∈ l, le a b → le b a → a = b) → l.Perm m → l.Pairwise le → m.Pairwise le → l = m
 | [], m, _, h, _, _ => (List.Perm.nil_eq h)
 | a :: l, [], _, h, _, _ => by have := h.length_eq; simp at this
 | a :: l, b :: m, ha, h, h1, h2 => by
   rw [List.pairwise_cons] at h1 h2
   have e : a = b := by
    rcases zB6.1 (h.mem_iff.1 (zAp ..)) with e | e
    · exact e
    · rcases zB6.1 (h.symm.mem_iff.1 (zAp ..)) with e2 | e2
      · exact e2.symm
      · exact ha a (zAp ..) b (zAm _ e2) (h1.1 b e2) (h2.1 a e)
   subst e
   rw [perm_sorted (fun x hx y hy => ha x (zAm _ hx) y (zAm _ hy)) (List.Perm.cons_inv h) h1.2 h2.2]
theorem cmpK_zero : ∀ {a b : List Int}, a.length = b.length → cmpK a b = 0 → a = b
 | [], [], _, _ => rfl
 | [], _ :: _, h, _ => by simp at h
 | _ :: _, [], h, _ => by simp at h
 | x :: a, y :: b, h, hc => by
   rw [cmpK_cons] at hc
   split at hc
   · rw [cmpK_zero (by simpa using h) hc, show x = y by omega]
   · omega
theorem keyB_bare {x y : Note} (h : keyB x = keyB y) : bareN x = bareN y := by
 obtain ⟨a0, a1, a2, a3, a4, ⟨a5, a6⟩, ⟨a7, a8⟩, ⟨a9, a10, a11⟩⟩ := x
 obtain ⟨b0, b1, b2, b3, b4, ⟨b5, b6⟩, ⟨b7, b8⟩, ⟨b9, b10, b11⟩⟩ := y
 simp only [keyB, List.cons.injEq, and_true] at h
 obtain ⟨h1, h2, h3, h4, h5, h6, h7, h8, h9, h10⟩ := h
 simp only [bareN]
 subst h1; subst h2; subst h3; subst h4; subst h5; subst h6; subst h7; subst h8; subst h9; subst h10; rfl
theorem sortB_ord {l : List Note} (hin : ∀ n ∈ l, bIn n) : (sortB l).Pairwise fun x y => cmpK (keyB x) (keyB y) ≤ 0 := by
 have hs := (sortL_spec _ (swoB fixB) l).2
 have hp := sortB_perm l
 have hlen := sortB_len l
 rw [zC7]
 intro i j hi hj hij
 have h1 := hs i j (nZl _) hij (by omega)
 have e : ∀ k (hk : k < (sortB l).length), (sortL (fun x y => cmpB (fixB x) (fixB y)) l).toArray[k]! = (sortB l)[k] := fun k hk => by
  unfold sortB at hk ⊢
  simp [hk]
 rw [e i hi, e j hj] at h1
 have m1 := hin _ (hp.mem_iff.1 (lGm hi))
 have m2 := hin _ (hp.mem_iff.1 (lGm hj))
 have h3 := (ltB' fixB _ _).1 h1
 rw [fixB_eq m1, fixB_eq m2] at h3
 have := cmpK_anti (keyB (sortB l)[i]) (keyB (sortB l)[j])
 omega
theorem musL_eq {l m : List Note} (hl : ∀ n ∈ l, bIn n) (hm : ∀ n ∈ m, bIn n) : (musL l == musL m) = sameMu l m := by
 have hb : ∀ {l : List Note}, (∀ n ∈ l, bIn n) → ∀ n ∈ l.map bareN, bIn n := fun h n hn => by
  obtain ⟨k, hk, rfl⟩ := zAu.1 hn
  exact bIn_bare (h k hk)
 rw [zB4, beq_iff_eq, sameMu_iff]
 constructor
 · intro e
   have h1 := sortB_perm (l.map bareN)
   have h2 := sortB_perm (m.map bareN)
   unfold musL at e
   rw [e] at h1
   exact h1.symm.trans h2
 · intro h
   refine perm_sorted (le := fun x y => cmpK (keyB x) (keyB y) ≤ 0) (fun x hx y hy h1 h2 => ?_) ((sortB_perm _).trans (h.trans (sortB_perm _).symm)) (sortB_ord (hb hl)) (sortB_ord (hb hm))
   have h3 := cmpK_anti (keyB x) (keyB y)
   obtain ⟨x', _, rfl⟩ := zAu.1 ((sortB_perm _).mem_iff.1 hx)
   obtain ⟨y', _, rfl⟩ := zAu.1 ((sortB_perm _).mem_iff.1 hy)
   exact keyB_bare (x := bareN x') (y := bareN y') (cmpK_zero rfl (by omega))
def pOk (n m : Nat) : Int → Int → PL → Bool
 | _, _, [] => true
 | a, b, x :: r => decide (a < x.1) && (decide (b < x.2) && (decide (x.1 < n) && (decide (x.2 < m) && pOk n m x.1 x.2 r)))
def np (l : PL) : List (Nat × Nat) := l.map fun p => (p.1.toNat, p.2.toNat)
def ip (l : List (Nat × Nat)) : PL := l.map fun p => ((p.1 : Int), (p.2 : Int))
theorem np_ip (l : List (Nat × Nat)) : np (ip l) = l := by
 unfold np ip; rw [zD3]
 conv => rhs; rw [← List.map_id l]
 rfl
theorem pOk_spec {n m : Nat} : ∀ {l : PL} {a b : Int}, -1 ≤ a → -1 ≤ b → pOk n m a b l = true → (np l).Pairwise (fun p q => p.1 < q.1 ∧ p.2 < q.2) ∧ ∀ p ∈ np l, a < (p.1 : Int) ∧ b < (p.2 : Int) ∧ p.1 < n ∧ p.2 < m
 | [], _, _, _, _, _ => ⟨List.Pairwise.nil, fun p h => by cases h⟩
 | x :: r, a, b, ha, hb, h => by
   simp only [pOk, zA0, dEt] at h
   obtain ⟨h1, h2, h3, h4, h5⟩ := h
   obtain ⟨r1, r2⟩ := pOk_spec (by omega) (by omega) h5
   refine ⟨List.pairwise_cons.2 ⟨fun p hp => ?_, r1⟩, fun p hp => ?_⟩
   · have := r2 p hp
     show x.1.toNat < p.1 ∧ x.2.toNat < p.2
     omega
   · rcases zB6.1 (show p ∈ (x.1.toNat, x.2.toNat) :: np r from hp) with rfl | hp
     · show a < (x.1.toNat : Int) ∧ b < (x.2.toNat : Int) ∧ x.1.toNat < n ∧ x.2.toNat < m
       omega
     · have := r2 p hp
       omega
theorem ip_np {n m : Nat} : ∀ {l : PL} {a b : Int}, -1 ≤ a → -1 ≤ b → pOk n m a b l = true → ip (np l) = l
 | [], _, _, _, _, _ => rfl
 | x :: r, a, b, ha, hb, h => by
   simp only [pOk, zA0, dEt] at h
   obtain ⟨h1, h2, h3, h4, h5⟩ := h
   have ih := ip_np (l := r) (a := x.1) (b := x.2) (by omega) (by omega) h5
   show ((x.1.toNat : Int), (x.2.toNat : Int)) :: ip (np r) = x :: r
   rw [ih, Int.toNat_of_nonneg (by omega), Int.toNat_of_nonneg (by omega)]
theorem pairsOk_of {a b : Score} {l : PL} (h : pOk a.bars.length b.bars.length (-1) (-1) l = true) : Pairs a b (np l) := by
 obtain ⟨h1, h2⟩ := pOk_spec (by omega) (by omega) h
 exact ⟨h1, fun p hp => by have := h2 p hp; exact ⟨this.2.2.1, this.2.2.2⟩⟩
theorem pOk_of {n m : Nat} : ∀ {l : List (Nat × Nat)} {a b : Int}, l.Pairwise (fun p q => p.1 < q.1 ∧ p.2 < q.2) → (∀ p ∈ l, a < (p.1 : Int) ∧ b < (p.2 : Int) ∧ p.1 < n ∧ p.2 < m) → pOk n m a b (ip l) = true
 | [], _, _, _, _ => rfl
 | x :: r, a, b, h1, h2 => by
   rw [List.pairwise_cons] at h1
   have hx := h2 x (zAp ..)
   show pOk n m a b (((x.1 : Int), (x.2 : Int)) :: ip r) = true
   simp only [pOk, zA0, dEt]
   refine ⟨hx.1, hx.2.1, by omega, by omega, pOk_of h1.2 fun p hp => ?_⟩
   have h3 := h1.1 p hp
   have h4 := h2 p (zAm _ hp)
   omega
theorem RP_of : ∀ {l : List (Nat × Nat)} {n m : Nat}, RP n m l → l.reverse.Pairwise (fun p q => p.1 < q.1 ∧ p.2 < q.2) ∧ ∀ p ∈ l, p.1 < n ∧ p.2 < m
 | [], _, _, _ => ⟨by simp, fun p h => by cases h⟩
 | x :: r, n, m, h => by
   obtain ⟨h1, h2, h3⟩ := h
   obtain ⟨r1, r2⟩ := RP_of h3
   refine ⟨?_, fun p hp => ?_⟩
   · rw [List.reverse_cons, List.pairwise_append]
     refine ⟨r1, by simp, fun p hp q hq => ?_⟩
     rw [zAn.1 hq]
     exact r2 p (List.mem_reverse.1 hp)
   · rcases zB6.1 hp with rfl | hp
     · exact ⟨h1, h2⟩
     · have := r2 p hp; omega
def totI (c : Nat → Nat → Int) (n m : Nat) (l : PL) : Int := 2 * ((n : Int) + m - 2 * l.length) + (l.map fun p => c p.1.toNat p.2.toNat).sum
theorem totI_total (c : Nat → Nat → Int) (n m : Nat) (l : PL) : total c n m (np l).reverse = totI c n m l := by
 unfold total totI sumC np
 rw [zCv, lLm, List.map_reverse, List.sum_reverse, zD3]; rfl
theorem totI_ip (c : Nat → Nat → Int) (n m : Nat) (l : List (Nat × Nat)) : totI c n m (ip l.reverse) = total c n m l := by
 rw [← totI_total, np_ip, List.reverse_reverse]
def rowL (c : Nat → Nat → Int) (i w : Nat) : List Int := (List.range w).map fun k => T c i k
def tableL (c : Nat → Nat → Int) (h w : Nat) : List (List Int) := (List.range h).map fun i => rowL c i w
def get2 (t : List (List Int)) (i k : Nat) : Int := (t.getD i []).getD k 0
theorem rowL_succ (c : Nat → Nat → Int) (i w : Nat) : rowL c i (w + 1) = rowL c i w ++ [T c i w] := by unfold rowL; rw [List.range_succ, zAs]; rfl
theorem tableL_succ (c : Nat → Nat → Int) (h w : Nat) : tableL c (h + 1) w = tableL c h w ++ [rowL c h w] := by unfold tableL; rw [List.range_succ, zAs]; rfl
theorem rowL_len (c : Nat → Nat → Int) (i w : Nat) : (rowL c i w).length = w := by simp [rowL]
theorem tableL_len (c : Nat → Nat → Int) (h w : Nat) : (tableL c h w).length = h := by simp [tableL]
theorem rowL_get {c : Nat → Nat → Int} {i w k : Nat} (h : k < w) (d : Int) : (rowL c i w).getD k d = T c i k := by unfold rowL; simp [List.getD, h]
theorem tableL_get {c : Nat → Nat → Int} {h w i : Nat} (hi : i < h) (d : List Int) : (tableL c h w).getD i d = rowL c i w := by unfold tableL; simp [List.getD, hi]
def alignR (c : Nat → Nat → Int) (n m : Nat) : PL := ip (back c n m).reverse
theorem alignR_ok (c : Nat → Nat → Int) (n m : Nat) : pOk n m (-1) (-1) (alignR c n m) = true ∧ totI c n m (alignR c n m) = T c n m := by
 obtain ⟨h1, h2⟩ := back_spec (c := c) n m
 obtain ⟨h3, h4⟩ := RP_of h1
 refine ⟨pOk_of h3 fun p hp => ?_, by unfold alignR; rw [totI_ip]; exact h2⟩
 have := h4 p (List.mem_reverse.1 hp)
 omega
def stepK (f : Note → Note → Bool) (x : Note) (ps : PL) (y : Note) : PL := if f x y && (!fstIn ps x.id && !sndIn ps y.id) then ps ++ [(x.id, y.id)] else ps
theorem stepK_in {f : Note → Note → Bool} {x : Note} {ps : PL} (h : fstIn ps x.id = true) (y : Note) : stepK f x ps y = ps := by
 unfold stepK; rw [h]; simp
theorem foldK_in {f : Note → Note → Bool} {x : Note} {ps : PL} (h : fstIn ps x.id = true) : ∀ b : List Note, b.foldl (stepK f x) ps = ps
 | [] => rfl
 | y :: b => by rw [List.foldl_cons, stepK_in h, foldK_in h b]
theorem foldK {f : Note → Note → Bool} {x : Note} {ps : PL} : ∀ b : List Note, b.foldl (stepK f x) ps = stepM f b ps x := by
 intro b
 cases hx : fstIn ps x.id with
 | true => rw [foldK_in hx]; unfold stepM; rw [hx]; rfl
 | false =>
   unfold stepM
   rw [hx]
   simp only [zAy, if_false]
   induction b with
   | nil => rfl
   | cons y b ih =>
     rw [List.foldl_cons, zC9]
     by_cases hc : (!sndIn ps y.id && f x y) = true
     · rw [hc]
       simp only [zA0, zAh] at hc
       have e : stepK f x ps y = ps ++ [(x.id, y.id)] := by unfold stepK; rw [hx, hc.1, hc.2]; rfl
       rw [e]
       exact foldK_in (by rw [fstIn_append]; simp [fstIn]) b
     · have hc' : (!sndIn ps y.id && f x y) = false := by simpa using hc
       rw [hc']
       have e : stepK f x ps y = ps := by
        unfold stepK
        rw [if_neg]
        rw [hx]
        intro h
        simp only [Bool.not_false, zC6, zA0] at h
        rw [h.1, h.2] at hc'
        exact absurd hc' (by decide)
       rw [e]; exact ih
def ruleF : Nat → Note → Note → Bool
 | 1 => f1
 | 2 => f2
 | _ => f3
theorem take_filter {α : Type} (p : α → Bool) : ∀ (l : List α) (k : Nat), (l.take k).filter p = (l.filter p).take ((l.take k).filter p).length
 | [], k => by simp
 | x :: l, 0 => by simp
 | x :: l, k + 1 => by
   rw [List.take_succ_cons]
   by_cases h : p x = true
   · rw [zBh h, zBh h, zA8, List.take_succ_cons, ← take_filter p l k]
   · rw [zBi h, zBi h]; exact take_filter p l k
theorem filter_len_le {α : Type} (p : α → Bool) (l : List α) (k : Nat) : ((l.take k).filter p).length ≤ (l.filter p).length :=
 ((List.take_sublist k l).filter p).length_le
theorem filter_at {α : Type} [Inhabited α] (p : α → Bool) (l : List α) {k : Nat} (hk : k < l.length) (h : p (l.getD k default) = true) :
 (l.filter p)[((l.take k).filter p).length]? = some (l.getD k default) ∧ ((l.take (k + 1)).filter p).length = ((l.take k).filter p).length + 1 := by
 have e : l.take (k + 1) = l.take k ++ [l.getD k default] := takeS hk
 have e2 : (l.take (k + 1)).filter p = (l.take k).filter p ++ [l.getD k default] := by
  rw [e, zC1, zBh h]; rfl
 refine ⟨?_, by rw [e2]; simp⟩
 have h3 := take_filter p l (k + 1)
 rw [e2] at h3
 have h4 : ((l.filter p).take ((l.take k).filter p ++ [l.getD k default]).length)[((l.take k).filter p).length]? = some (l.getD k default) := by
  rw [← h3]; simp
 rw [zB5] at h4
 simpa using h4
theorem filter_not {α : Type} [Inhabited α] (p : α → Bool) (l : List α) {k : Nat} (hk : k < l.length) (h : p (l.getD k default) = false) : ((l.take (k + 1)).filter p).length = ((l.take k).filter p).length := by
 rw [takeS hk, zC1, zBi (by rw [h]; decide)]; simp
theorem notin_take {α : Type} [Inhabited α] {f : α → Int} (p : α → Bool) {l : List α} (hn : (l.map f).Nodup) {k : Nat} (hk : k < l.length) : ∀ x ∈ (l.filter p).take ((l.take k).filter p).length, f x ≠ f (l.getD k default) := by
 intro x hx e
 rw [← take_filter] at hx
 have hx1 := (zCf.1 hx).1
 have hn2 : ((l.take (k + 1)).map f).Nodup := ((List.take_sublist (k + 1) l).map f).nodup hn
 exact ((nodup_succ f l k hk).1 hn2).2 (zAu.2 ⟨x, hx1, e⟩)
end Go.Proofs.YtekfpcgagoidcaaGreatDoor.Al
namespace Go.Ab
section
variable {P : Program} {n : Nat} {ops : Array Oper} {md : Region.Mode} {S : Nat → Nat → Store} {cls : Oper → Nat} {lo hi rank : Nat → Nat → Nat}
inductive WS (P : Program) (n : Nat) (ops : Array Oper) (S : Nat → Nat → Store) (cls : Oper → Nat) (lo hi rank : Nat → Nat → Nat) (i : Nat) (o : Oper) (env : Env) : Nat → Nat → AV → Nat → Nat → Prop
 | q {j1 j2 : Nat} {v : AV} (h1 : lo 1 i ≤ j1 ∧ j1 ≤ hi 1 i) (h2 : lo 2 i ≤ j2 ∧ j2 ≤ hi 2 i) (he : cls o = 0) (h : ∀ k1 k2, k1 ≤ hi 1 i → k2 ≤ hi 2 i → PStep P ops o env (S k1 k2) v) : WS P n ops S cls lo hi rank i o env j1 j2 v j1 j2
 | e1 {j1 j2 : Nat} {v : AV} (hr : rank 1 i = j1 + 1) (h2 : lo 2 i ≤ j2 ∧ j2 ≤ hi 2 i) (he : cls o = 1)
  (h : ∀ env', (∀ x ∈ o.looksAt ops, env' x = env x) → ∀ k2, lo 2 i ≤ k2 → k2 ≤ hi 2 i → EStep P n ops o (fun e s => e = env'.putO o.dst v ∧ s = S (j1 + 1) k2) env' (S j1 k2)) : WS P n ops S cls lo hi rank i o env j1 j2 v (j1 + 1) j2
 | e2 {j1 j2 : Nat} {v : AV} (hr : rank 2 i = j2 + 1) (h1 : lo 1 i ≤ j1 ∧ j1 ≤ hi 1 i) (he : cls o = 2)
  (h : ∀ env', (∀ x ∈ o.looksAt ops, env' x = env x) → ∀ k1, lo 1 i ≤ k1 → k1 ≤ hi 1 i → EStep P n ops o (fun e s => e = env'.putO o.dst v ∧ s = S k1 (j2 + 1)) env' (S k1 j2)) : WS P n ops S cls lo hi rank i o env j1 j2 v j1 (j2 + 1)
end
theorem AWP.newOwn {P : Program} {n : Nat} {c : Code} {K : Exit → Env → Store → Prop} {env : Env} {σ : Store} (sz : Nat) (hk : AWP P n c K env (σ ++ [.own sz 0])) : AWP P n c K env σ := by
 intro G a w hr
 have hle : G.Le { G with B := G.B ++ [.own none 0 0] } := .upB (BLe.append _ _)
 refine wpIn_mono (hk { G with B := G.B ++ [GB.own none 0 0] } a w (hr.later hle (hr.st.ownNil sz))) ?_
 rintro x a' w' ⟨e, s, G', h1, h2, h3⟩
 exact ⟨e, s, G', h1, Gh.Le.trans hle h2, h3⟩
end Go.Ab
namespace Go.Ab
def EntB (u v : AV) : Prop := ∀ M B x, VRel M B u x → VRel M B v x
theorem EntB.refl (u : AV) : EntB u u := fun _ _ _ h => h
theorem EntB.no (sz : Nat) (es : List (List AV)) (t : Tok) : EntB (.sl sz es t) (.sl sz es .no) := fun _ _ _ h => by
 cases h with
 | sl _ _ _ b off cap f hz hm hr hc ht => exact .sl sz es .no b off cap f hz hm hr hc trivial
 | slz _ t ht => exact .slz sz .no trivial
 | slzz sz a cap => exact .slzz sz a cap
theorem EntB.nil (sz : Nat) : EntB .nils (.sl sz [] .no) := fun _ _ _ h => by cases h; exact .slz sz .no trivial
theorem TCall.args {P : Program} {f : FuncId} {avs avs' : List AV} {σ : Store} {Q : AV → Store → Prop} (h : TCall P f avs σ Q) (hl : avs'.length = avs.length) (he : ∀ (i : Nat) (u v : AV), avs'[i]? = some u → avs[i]? = some v → EntB u v) : TCall P f avs' σ Q :=
 ⟨h.1, fun G w vs hs ha => h.2 G w vs hs ⟨ha.1.trans hl, fun i c hi => by
  have : i < avs'.length := by
   rw [hl]
   rcases nLg i avs.length with h | h
   · exact h
   · rw [zA1 h] at hi; cases hi
  exact he i _ c (zA9 this) hi _ _ _ (ha.2 i _ (zA9 this))⟩⟩
section
variable {P : Program} {n : Nat} {K : Exit → Env → Store → Prop} {env : Env}
theorem AWP.newOwns {c : Code} (sz : Nat) : ∀ (N : Nat) {σ : Store}, AWP P n c K env (σ ++ List.replicate N (.own sz 0)) → AWP P n c K env σ
 | 0, σ, h => by simpa using h
 | N + 1, σ, h => by
   refine AWP.newOwn sz (AWP.newOwns sz N ?_)
   rw [zBj]
   exact h
end
end Go.Ab
namespace Go.Proofs.YtekfpcgagoidcaaGreatDoor.Al
open Go.Ab Go.Sort
abbrev KeyP := Int × Int
abbrev GL := List (KeyP × (List Note × Tok))
abbrev NL := List (KeyP × List Note)
def evT (v : List Note × Tok) : AV := .sl 12 (v.1.map encN) v.2
def evN (v : List Note) : AV := .sl 12 (v.map encN) .no
def lenOwn (v : List Note × Tok) : Nat := match v.2 with | .own _ => v.1.length | _ => 0
def objs (al : GL) (N : Nat) : Store := (List.range N).map fun j => .own 12 (match al[j]? with | some p => lenOwn p.2 | none => 0)
theorem objs_len (al : GL) (N : Nat) : (objs al N).length = N := by simp [objs]
theorem objs_ok (m : Nat) (al : GL) (N : Nat) : (objs al N).all (okObj m) = true := by
 unfold objs; rw [zA7]; intro o ho
 obtain ⟨j, _, rfl⟩ := zAu.1 ho
 rfl
def toG (al : NL) : GL := al.map fun p => (p.1, (p.2, Tok.no))
def toN (al : GL) : NL := al.map fun p => (p.1, p.2.1)
theorem objs_new (al : NL) (N : Nat) : objs (toG al) N = List.replicate N (.own 12 0) := by
 unfold objs toG
 apply zCc
 intro i
 rw [zAb, List.getElem?_replicate]
 split
 · rename_i h
   rw [zCw h, zBb]
   congr 2
   rw [zAb]
   cases al[i]? <;> rfl
 · rename_i h
   rw [zA1 (by simpa using h)]; rfl
theorem lk_map2 {κ α β : Type} [DecidableEq κ] (f : α → β) (k : κ) : ∀ al : List (κ × α), lk (al.map fun p => (p.1, f p.2)) k = (lk al k).map f
 | [] => rfl
 | p :: r => by
   simp only [zBk, lk]
   split
   · rfl
   · exact lk_map2 f k r
theorem lk_snoc {κ α : Type} [DecidableEq κ] (k k' : κ) (v : α) : ∀ al : List (κ × α), lk al k = none → lk (al ++ [(k, v)]) k' = if k = k' then some v else lk al k'
 | [], _ => by simp [lk]
 | p :: r, h => by
   obtain ⟨a, b⟩ := p
   simp only [lk] at h
   split at h
   · cases h
   rename_i hne
   simp only [List.cons_append, lk]
   rw [lk_snoc k k' v r h]
   by_cases e : a = k'
   · rw [if_pos e, if_pos e, if_neg (fun e2 => hne (e.trans e2.symm))]
   · rw [if_neg e, if_neg e]
theorem lk_set {κ α : Type} [DecidableEq κ] (k k' : κ) (v : α) : ∀ al : List (κ × α), (lk al k).isSome = true → lk (al.set (posOf al k) (k, v)) k' = if k = k' then some v else lk al k'
 | [], h => by cases h
 | p :: r, h => by
   obtain ⟨a, b⟩ := p
   simp only [lk] at h
   simp only [posOf]
   by_cases e : a = k
   · rw [if_pos e, List.set_cons_zero]
     simp only [lk]
     by_cases e2 : k = k'
     · rw [if_pos e2, if_pos e2]
     · rw [if_neg e2, if_neg e2, if_neg (fun h => e2 (e.symm.trans h))]
   · rw [if_neg e] at h
     rw [if_neg e, List.set_cons_succ]
     simp only [lk]
     rw [lk_set k k' v r h]
     by_cases e2 : a = k'
     · rw [if_pos e2, if_pos e2, if_neg (fun h => e (e2.trans h.symm))]
     · rw [if_neg e2, if_neg e2]
def entG (al : GL) (key : KeyP) : GL := if (lk al key).isSome then al else al ++ [(key, ([], .fresh))]
def valG (al : GL) (key : KeyP) : List Note × Tok := (lk al key).getD ([], .fresh)
def addG (base : Nat) (al : GL) (key : KeyP) (n : Note) : GL := (entG al key).set (posOf al key) (key, ((valG al key).1 ++ [n], .own (base + posOf al key)))
def OwnG (base : Nat) (i : Int) (al : GL) : Prop := ∀ (j : Nat) (p : KeyP × (List Note × Tok)), al[j]? = some p → p.1.1 = i → p.2.2 = .own (base + j)
theorem entG_at {base : Nat} {i : Int} {al : GL} (h : OwnG base i al) {key : KeyP} (hk : key.1 = i) :
 posOf al key ≤ al.length ∧ ((valG al key).2 = .own (base + posOf al key) ∨ valG al key = ([], .fresh)) ∧ (entG al key)[posOf al key]? = some (key, valG al key) ∧ posOf al key < (entG al key).length := by
 obtain ⟨_, h2, h3⟩ := findIdx_pos key al
 unfold entG valG
 cases hs : (lk al key).isSome with
 | true =>
   obtain ⟨v, hv, hp⟩ := h2 hs
   have hlt : posOf al key < al.length := by
    rcases nLg (posOf al key) al.length with h | h
    · exact h
    · rw [zA1 h] at hp; cases hp
   rw [hv, zBq, if_pos rfl]
   exact ⟨by omega, .inl (h _ _ hp hk), hp, hlt⟩
 | false =>
   have hp := h3 hs
   have hn : lk al key = none := by simpa using hs
   rw [hn, hp, Option.getD_none]
   simp
theorem lenG {base : Nat} {i : Int} {al : GL} (h : OwnG base i al) {key : KeyP} (hk : key.1 = i) : lenOwn (valG al key) = (valG al key).1.length := by
 rcases (entG_at h hk).2.1 with e | e
 · unfold lenOwn; rw [e]
 · rw [e]; rfl
theorem objs_ent {al : GL} {key : KeyP} {N : Nat} : objs (entG al key) N = objs al N := by
 unfold entG
 split
 · rfl
 · unfold objs
   refine zCu fun j _ => ?_
   congr 1
   rcases Nat.lt_trichotomy j al.length with h | h | h
   · rw [zA6 h]
   · subst h; simp [lenOwn]
   · rw [zA1 (by simp; omega), zA1 (by omega)]
theorem objs_at {base : Nat} {i : Int} {al : GL} (h : OwnG base i al) {key : KeyP} (hk : key.1 = i) {N : Nat} (hN : al.length < N) : (objs al N)[posOf al key]? = some (.own 12 ((valG al key).1.map encN).length) := by
 obtain ⟨h1, h2, h3, h4⟩ := entG_at h hk
 rw [← objs_ent (key := key)]
 unfold objs
 rw [zAb, zCw (by omega), zBb, h3]
 simp only [lenG h hk, lLm]
theorem objs_add {base : Nat} {i : Int} {al : GL} (h : OwnG base i al) {key : KeyP} (hk : key.1 = i) (n : Note) {N : Nat} (hN : al.length < N) :
 (objs al N).set (posOf al key) (.own 12 ((valG al key).1.map encN ++ [encN n]).length) = objs (addG base al key n) N := by
 obtain ⟨h1, h2, h3, h4⟩ := entG_at h hk
 rw [← objs_ent (key := key)]
 unfold objs addG
 apply zCc
 intro j
 rw [List.getElem?_set]
 simp only [lLm, List.length_range, zAb]
 by_cases e : posOf al key = j
 · subst e
   rw [if_pos rfl, if_pos (by omega), zCw (by omega), zBb, zAj h4]
   simp [lenOwn]
 · rw [if_neg e]
   rcases nLg j N with hj | hj
   · rw [zCw hj, zBb, zBb, zAq e]
   · rw [zA1 (by simpa using hj)]; rfl
theorem addG_len {base : Nat} {al : GL} {key : KeyP} {n : Note} : (addG base al key n).length ≤ al.length + 1 := by
 unfold addG entG; rw [zCr]; split <;> simp
theorem addG_own {base : Nat} {i : Int} {al : GL} (h : OwnG base i al) {key : KeyP} (hk : key.1 = i) (n : Note) : OwnG base i (addG base al key n) := by
 obtain ⟨h1, h2, h3, h4⟩ := entG_at h hk
 intro j p hj hp
 unfold addG at hj
 rw [List.getElem?_set] at hj
 by_cases e : posOf al key = j
 · rw [if_pos e, if_pos h4] at hj
   simp at hj; subst hj; subst e; rfl
 · rw [if_neg e] at hj
   unfold entG at hj
   split at hj
   · exact h _ _ hj hp
   · rcases Nat.lt_trichotomy j al.length with h5 | h5 | h5
     · rw [zA6 h5] at hj; exact h _ _ hj hp
     · rename_i hno
       exact absurd ((findIdx_pos key al).2.2 (by simpa using hno)) (fun h => e (h.trans h5.symm))
     · rw [zA1 (by simp; omega)] at hj; cases hj
theorem addG_lk {base : Nat} {al : GL} {key : KeyP} {n : Note} (k : KeyP) : ((lk (addG base al key n) k).map (·.1)).getD [] = if key = k then ((lk al key).map (·.1)).getD [] ++ [n] else ((lk al k).map (·.1)).getD [] := by
 obtain ⟨_, h2, h3⟩ := findIdx_pos key al
 unfold addG entG valG
 cases hs : (lk al key).isSome with
 | true =>
   obtain ⟨v, hv, hp⟩ := h2 hs
   rw [if_pos rfl, hv, lk_set _ _ _ _ hs]
   by_cases e : key = k
   · rw [if_pos e, if_pos e]; rfl
   · rw [if_neg e, if_neg e]
 | false =>
   have hn : lk al key = none := by simpa using hs
   have hp := h3 hs
   rw [if_neg (by decide), hn]
   have e0 : (al ++ [(key, (([] : List Note), Tok.fresh))]).set (posOf al key) (key, ((none.getD (([] : List Note), Tok.fresh)).1 ++ [n], .own (base + posOf al key))) = al ++ [(key, ([n], .own (base + al.length)))] := by
    rw [hp, List.set_append_right _ _ (nLr _)]; simp
   rw [e0, lk_snoc _ _ _ _ hn]
   by_cases e : key = k
   · rw [if_pos e, if_pos e]; rfl
   · rw [if_neg e, if_neg e]
def foldG (base : Nat) (i : Int) (al : GL) (l : List Note) : GL := l.foldl (fun al n => addG base al (i, n.bar) n) al
theorem foldG_snoc (base : Nat) (i : Int) (al : GL) (l : List Note) (n : Note) : foldG base i al (l ++ [n]) = addG base (foldG base i al l) (i, n.bar) n := by unfold foldG; rw [zBy]; rfl
theorem foldG_spec (base : Nat) (i : Int) : ∀ (l : List Note) (al : GL), OwnG base i al → OwnG base i (foldG base i al l) ∧ (foldG base i al l).length ≤ al.length + l.length ∧
 ∀ k : KeyP, ((lk (foldG base i al l) k).map (·.1)).getD [] = ((lk al k).map (·.1)).getD [] ++ if k.1 = i then l.filter (fun n => n.bar == k.2) else []
 | [], al, h => ⟨h, nLr _, fun k => by simp [foldG]⟩
 | n :: r, al, h => by
   obtain ⟨h1, h2, h3⟩ := foldG_spec base i r (addG base al (i, n.bar) n) (addG_own h rfl n)
   refine ⟨h1, ?_, fun k => ?_⟩
   · have := addG_len (base := base) (al := al) (key := (i, n.bar)) (n := n)
     show (foldG base i (addG base al (i, n.bar) n) r).length ≤ _
     rw [zA8]; omega
   · show ((lk (foldG base i (addG base al (i, n.bar) n) r) k).map (·.1)).getD [] = _
     rw [h3 k, addG_lk]
     by_cases e : (i, n.bar) = k
     · subst e
       rw [if_pos rfl, if_pos rfl, if_pos rfl, zBh (by simp), zBj]; rfl
     · rw [if_neg e]
       by_cases e2 : k.1 = i
       · rw [if_pos e2, if_pos e2, zBi]
         intro h9
         exact e (by rw [← e2, eq_of_beq h9])
       · rw [if_neg e2, if_neg e2]
def Grp (a b : Score) (al : NL) : Prop := ∀ bar : Int, (lk al (0, bar)).getD [] = inBar a bar ∧ (lk al (1, bar)).getD [] = inBar b bar
theorem toG_own {base : Nat} {i : Int} {al : NL} (h : ∀ p ∈ al, p.1.1 ≠ i) : OwnG base i (toG al) := by
 intro j p hj hp
 unfold toG at hj
 rw [zAb, zA3] at hj
 obtain ⟨q, hq, rfl⟩ := hj
 exact absurd hp (h q (zAk hq))
theorem toN_lk (al : GL) (k : KeyP) : lk (toN al) k = (lk al k).map (·.1) := lk_map2 (fun v : List Note × Tok => v.1) k al
theorem toG_lk (al : NL) (k : KeyP) : ((lk (toG al) k).map (·.1)).getD [] = (lk al k).getD [] := by
 rw [show lk (toG al) k = (lk al k).map (fun v : List Note => (v, Tok.no)) from lk_map2 (fun v : List Note => (v, Tok.no)) k al, Option.map_map]
 cases lk al k <;> rfl
theorem foldG_keys (base : Nat) (i : Int) : ∀ (l : List Note) (al : GL) (p : KeyP × (List Note × Tok)), p ∈ foldG base i al l → p.1.1 = i ∨ ∃ q ∈ al, q.1 = p.1
 | [], al, p, h => .inr ⟨p, h, rfl⟩
 | n :: r, al, p, h => by
   rcases foldG_keys base i r (addG base al (i, n.bar) n) p h with h | ⟨q, hq, e⟩
   · exact .inl h
   · unfold addG entG at hq
     rcases zCm hq with hq | hq
     · split at hq
       · exact .inr ⟨q, hq, e⟩
       · rcases zBv.1 hq with hq | hq
         · exact .inr ⟨q, hq, e⟩
         · rw [zAn.1 hq] at e; left; rw [← e]
     · rw [hq] at e; left; rw [← e]
def grp0 (base : Nat) (a : Score) : NL := toN (foldG base 0 (toG []) a.notes)
def grp1 (base base' : Nat) (a b : Score) : NL := toN (foldG base' 1 (toG (grp0 base a)) b.notes)
theorem grp0_keys (base : Nat) (a : Score) : ∀ p ∈ grp0 base a, p.1.1 ≠ 1 := fun p hp e => by
 unfold grp0 toN at hp
 obtain ⟨q, hq, rfl⟩ := zAu.1 hp
 rcases foldG_keys base 0 _ _ _ hq with h | ⟨r, hr, _⟩
 · have e : q.1.1 = 1 := e
   rw [h] at e; exact absurd e (by decide)
 · cases hr
theorem grp_ok (base base' : Nat) (a b : Score) : Grp a b (grp1 base base' a b) := fun bar => by
 have h0 := (foldG_spec base 0 a.notes (toG []) (toG_own fun p h => by cases h)).2.2
 have h1 := (foldG_spec base' 1 b.notes (toG (grp0 base a)) (toG_own (grp0_keys base a))).2.2
 have g0 : ∀ k : KeyP, (lk (grp0 base a) k).getD [] = if k.1 = 0 then a.notes.filter (fun n => n.bar == k.2) else [] := fun k => by
  unfold grp0; rw [toN_lk, h0]; simp [toG, lk]
 unfold grp1
 constructor
 · rw [toN_lk, h1, toG_lk, g0]; simp [inBar]
 · rw [toN_lk, h1, toG_lk, g0]; simp [inBar]
end Go.Proofs.YtekfpcgagoidcaaGreatDoor.Al
