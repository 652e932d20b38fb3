/- Contracts by content: the reference of bowing: kinds of notes, in order.  Contracts by content: the reference of bowing: the same, a clash, its choices.  Contracts by content: bowing.Clashes. No statement is proved here. -/
import Derived.Test.YtficfljjnbnhbaaGreatDoorP20
import Derived.Test.YtficfljjnbnhbaaGreatDoorP22
import Derived.Test.YtficfljjnbnhbaaGreatDoorP23
import Derived.Test.YtficfljjnbnhbaaGreatDoorP25
import Derived.Test.YtficfljjnbnhbaaGreatDoorP26
set_option linter.unusedVariables false
set_option linter.unusedSimpArgs false
namespace Go.Proofs.YtficfljjnbnhbaaGreatDoor.Bw
open Go.Ab Go.Sort Mk
attribute [local irreducible] AWP AOps EStep AQ PStep PRun PCall TCall VCall DStep TDies AWD DCall
structure Keyed (bars : List Bar) (bs : List Bow) : Prop where
 dur : ∀ b ∈ bs, durOk b.note.start = true ∧ durOk b.note.len = true
 ali : ∀ a ∈ bs, ∀ b ∈ bs, alikeB a.note b.note = (keyT bars a.note == keyT bars b.note)
theorem keyed {s : Score} (h : scoreOk s = true) (l : List Jo.Mark) (sec : Int) (ex : List Int) : Keyed s.bars (bowsL s l sec ex) := by
 refine ⟨fun b hb => ?_, fun a ha b hb => ?_⟩
 · obtain ⟨n, hn, _, _, e1, e2⟩ := seat_note (bow_seat hb)
   obtain ⟨_, _, _, d1, d2⟩ := note_formed h hn
   have e1 : b.note.start = n.start := e1
   have e2 : b.note.len = n.len := e2
   rw [e1, e2]; exact ⟨d1, d2⟩
 · rw [zAs, beq_iff_eq]
   exact (seat_alike h (bow_seat ha) (bow_seat hb)).symm
theorem take_anyS {α : Type} [Inhabited α] {l : List α} {m : Nat} (h : m < l.length) (q : α → Bool) : (l.take (m + 1)).any q = ((l.take m).any q || q (l.getD m default)) := by
 rw [takeS' h, List.any_append]; simp
set_option maxHeartbeats 32000000 in
set_option maxRecDepth 20000 in
theorem rkinds_spec (s : Score) (hb : s.bars.length ≤ 1000000) (bs : List Bow) (hl : bs.length ≤ 1000000) (hk : Keyed s.bars bs) :
 PCall Tryz.prog 45 [.agg (encS s), .sl 16 (bs.map encBow) .no] (.sl 12 ((kindsL (keyT s.bars) (bs.map (·.note))).map encN) .no) := by
 refine PCall.body Tryz.func45 rfl rfl Tryz.ntmps45 rfl rfl ?_
 repeat' (first | refine aoQ rfl rfl rfl (fun hg => by exact std0) (by exact rfl) ?_ | refine sqW ?_ | refine rgK (fun K' hK => ?_) | (refine aoN (hK _ _ ?_); clear hK K') | refine aoE (bxW rfl rfl rfl rfl rfl tI rfl rfl ?_) | refine blK ?_)
 refine AWP.nilNo 5 12 rfl ?_
 refine lpD (ι := Nat) (fun i => [(1, .sl 16 (bs.map encBow) .no), (2, .ptr 0 0), (5, .sl 12 ((kindsL (keyT s.bars) ((bs.take i).map (·.note))).map encN) .no), (6, .int i)]) (fun _ => [.var (encS s)])
  (fun i => i ≤ bs.length) (fun i => bs.length - i) 1 (fun _ => rfl) 0 (nZl _) ⟨rfl, rfl, rfl, rfl, tI⟩ rfl (fun _ _ => rfl) (fun _ _ => rfl) ?_
 intro i hi
 by_cases hlt : i < bs.length
 · obtain ⟨b, hbb⟩ : ∃ b, bs.getD i default = b := ⟨_, rfl⟩
   have hbm : b ∈ bs := by rw [← hbb]; exact getD_mem hlt
   have hsn : kindsL (keyT s.bars) ((bs.take (i + 1)).map (·.note)) = kindStep (keyT s.bars) (kindsL (keyT s.bars) ((bs.take i).map (·.note))) b.note := by
    rw [takeS' hlt, hbb, zAe]; exact kinds_snoc _ _ _
   have hkl := kinds_len (keyT s.bars) ((bs.take i).map (·.note))
   rw [lLm, zAc] at hkl
   have hsub : ∀ x ∈ kindsL (keyT s.bars) ((bs.take i).map (·.note)), ∃ a ∈ bs, a.note = x := fun x hx => by
    rcases kinds_sub (keyT s.bars) _ [] x hx with h | h
    · cases h
    · obtain ⟨a, ha, e⟩ := zAi.1 h
      exact ⟨a, zDd ha, e⟩
   generalize kindsL (keyT s.bars) ((bs.take i).map (·.note)) = out at *
   obtain ⟨d1, d2⟩ := hk.dur b hbm
   have hal : ∀ x ∈ out, alikeB x b.note = (keyT s.bars x == keyT s.bars b.note) ∧ durOk x.start = true ∧ durOk x.len = true := fun x hx => by
    obtain ⟨a, ha, rfl⟩ := hsub x hx
    exact ⟨hk.ali a ha b hbm, hk.dur a ha⟩
   obtain ⟨n, hn⟩ : ∃ n, b.note = n := ⟨_, rfl⟩
   rw [hn] at hsn hal d1 d2
   repeat' (first | refine aoQ rfl rfl rfl (fun hg => by first | exact iX encBow bs ((i : Nat) : Int) hbb (hb := by omega) | exact std0 | exact std1) (by exact rfl) ?_ | refine sqW ?_ | refine rgK (fun K' hK => ?_) | (refine aoN (hK _ _ ?_); clear hK K') | refine aoE (stW tabOk rfl rfl rfl tI rfl rfl tI rfl rfl rfl rfl rfl rfl rfl ?_) | refine aoE (alW tabOk rfl rfl rfl rfl rfl rfl ?_) | refine cdN rfl tI (fun hc => ?_) (fun hc => ?_) | refine blK ?_ | refine exW ?_ | refine skW ?_ | refine rtW ?_)
   all_goals (first | (exfalso; omega) | skip)
   refine lpD (ι := Nat) (fun m => [(1, .sl 16 (bs.map encBow) .no), (2, .ptr 0 0), (5, .sl 12 (out.map encN) .no), (6, .int i), (7, .ptr 1 0), (8, .b ((out.take m).any fun x => keyT s.bars x == keyT s.bars n)), (9, .int ((kAt (keyT s.bars) n out m : Nat))), (10, .int m)]) (fun _ => [.var (encS s), .var (encN b.note)])
    (fun m => m ≤ out.length) (fun m => out.length - m) 2 (fun _ => rfl) 0 (nZl _) ⟨rfl, rfl, rfl, rfl, rfl, rfl, rfl, rfl, tI⟩ rfl (fun _ _ => rfl) (fun _ _ => rfl) ?_
   rw [hn]
   intro m hm
   by_cases hml : m < out.length
   · obtain ⟨x, hx⟩ : ∃ x, out.getD m default = x := ⟨_, rfl⟩
     obtain ⟨a1, a2, a3⟩ := hal x (by rw [← hx]; exact getD_mem hml)
     have c1 := ralike_spec x n
     rw [a1] at c1
     have c2 := rbefore_spec s hb n x d1 d2 a2 a3
     have ha := take_anyS hml fun x => keyT s.bars x == keyT s.bars n
     have hkm : kAt (keyT s.bars) n out (m + 1) = if (lt3 (keyT s.bars n) (keyT s.bars x) && (((kAt (keyT s.bars) n out m : Nat) : Int) == (out.length : Int))) = true then m else kAt (keyT s.bars) n out m := by rw [← hx]; rfl
     rw [hx] at ha
     generalize (out.take m).any (fun x => keyT s.bars x == keyT s.bars n) = kn at *
     generalize kAt (keyT s.bars) n out m = km at *
     generalize (keyT s.bars x == keyT s.bars n) = e1 at *
     generalize lt3 (keyT s.bars n) (keyT s.bars x) = e2 at *
     repeat' (first | refine aoQ rfl rfl rfl (fun hg => by first | exact std0 | exact std1) (by exact rfl) ?_ | refine sqW ?_ | refine rgK (fun K' hK => ?_) | (refine aoN (hK _ _ ?_); clear hK K') | refine cdN rfl tI (fun hc => ?_) (fun hc => ?_) | refine blK ?_ | refine exW ?_ | refine skW ?_ | refine dK2 (by decide +kernel) (by kernel_rfl) (by decide +kernel) rfl (fun K' hK => ?_) | (refine aqN (hK _ ?_); clear hK K') | refine aqQ rfl rfl (fun hg => by first | exact iX encN out ((m : Nat) : Int) hx (hb := by omega) | exact std0 | exact pcW (c1) rfl rfl nd rfl nds | exact pcW (c2) rfl rfl nd rfl nds) (by exact rfl) ?_)
     all_goals (first | (exfalso; omega) | skip)
     · rw [if_pos hc] at hkm
       exact ⟨m + 1, hml, by show out.length - (m + 1) < out.length - m; omega, ⟨rfl, rfl, rfl, rfl, rfl, (by rw [ha]; first | rfl | (cases kn <;> cases e1 <;> rfl)), (by rw [hkm]; rfl), rfl, tI⟩, rfl⟩
     · rw [if_neg (by rw [hc]; decide)] at hkm
       exact ⟨m + 1, hml, by show out.length - (m + 1) < out.length - m; omega, ⟨rfl, rfl, rfl, rfl, rfl, (by rw [ha]; first | rfl | (cases kn <;> cases e1 <;> rfl)), (by rw [hkm]; rfl), rfl, tI⟩, rfl⟩
   · obtain rfl : m = out.length := by omega
     rw [zAr, kAt_all]
     have hpl : plK (keyT s.bars) n out ≤ out.length := List.findIdx_le_length
     have hks : kindStep (keyT s.bars) out n = if (out.any fun x => keyT s.bars x == keyT s.bars n) = true then out else out.take (plK (keyT s.bars) n out) ++ n :: out.drop (plK (keyT s.bars) n out) := rfl
     rw [hks] at hsn
     generalize plK (keyT s.bars) n out = p at *
     cases hkn : (out.any fun x => keyT s.bars x == keyT s.bars n) with
     | true =>
       rw [hkn, if_pos rfl] at hsn
       repeat' (first | refine aoQ rfl rfl rfl (fun hg => by first | exact std0 | exact std1) (by exact rfl) ?_ | refine sqW ?_ | refine rgK (fun K' hK => ?_) | (refine aoN (hK _ _ ?_); clear hK K') | refine cdN rfl tI (fun hc => ?_) (fun hc => ?_) | refine blK ?_ | refine exW ?_ | refine skW ?_ | refine dK2 (by decide +kernel) (by kernel_rfl) (by decide +kernel) rfl (fun K' hK => ?_) | refine aqQ rfl rfl (fun hg => by first | exact std0 | exact std1) (by exact rfl) ?_)
       all_goals (first | (exfalso; omega) | (exfalso; simp at hc; done) | skip)
       exact ⟨i + 1, hlt, by show bs.length - (i + 1) < bs.length - i; omega, ⟨rfl, rfl, (by rw [hsn]; rfl), rfl, tI⟩, rfl⟩
     | false =>
       rw [hkn, if_neg (by decide)] at hsn
       have e0 : ((out.take p).map encN).length = p := by rw [lLm, zAc]; omega
       have e1 : ((out.drop p).map encN).length ≤ out.length := by rw [lLm, zAx]; omega
       have e2 : (out.take p).map encN ++ [encN n] = (out.take p ++ [n]).map encN := by rw [zAe]; rfl
       have e3 : ((out.take p ++ [n]).map encN).length = p + 1 := by rw [lLm, lLa, zAc]; show min p out.length + 1 = p + 1; omega
       have e4 : (out.take p ++ n :: out.drop p).map encN = (out.take p ++ [n]).map encN ++ (out.drop p).map encN := by simp
       refine AWP.newOwn 12 ?_
       repeat' (first | refine aoQ rfl rfl rfl (fun hg => by first | exact std0 | exact PRun.sliceHiM tabOk rfl rfl nd rfl nd rfl ⟨by omega, by omega⟩ | exact std1) (by exact rfl) ?_ | refine sqW ?_ | refine rgK (fun K' hK => ?_) | (refine aoN (hK _ _ ?_); clear hK K') | refine aoE (EStep.appendV (l := 2) (es := []) (es3 := (out.take p).map encN) (m := p) tabOk rfl rfl rfl (by decide) (.inr ⟨rfl, rfl⟩) (Rd.nilF (Rd.w rfl tI)) rfl (Rd.w rfl tI) (.sl rfl (one_encN _)) (LOk.of (tabOk.get rfl)) (LOk.of (tabOk.get rfl)) rfl rfl (by simp only [zAb, lLm, zAc]; omega) (by simp only [zAb, lLm, zAc]; omega) rfl (by simp only [zAb, lLm, zAc]; omega) ?_) | refine cdN rfl tI (fun hc => ?_) (fun hc => ?_) | refine blK ?_ | refine exW ?_ | refine skW ?_ | refine dK2 (by decide +kernel) (by kernel_rfl) (by decide +kernel) rfl (fun K' hK => ?_) | refine aqQ rfl rfl (fun hg => by first | exact std0 | exact std1) (by exact rfl) ?_)
       all_goals (first | (exfalso; omega) | (exfalso; simp at hc; done) | skip)
       intro tk1 ht1
       repeat' (first | refine aoQ rfl rfl rfl (fun hg => by first | exact std0 | exact pbS tabOk rfl rfl nds) (by exact rfl) ?_ | refine sqW ?_ | refine rgK (fun K' hK => ?_) | (refine aoN (hK _ _ ?_); clear hK K') | refine aoE (EStep.appendU (l := 2) (es := (out.take p).map encN) (es3 := (out.take p ++ [n]).map encN) (m := ((out.take p ++ [n]).map encN).length) tabOk rfl rfl rfl (by decide) ht1 (Rd.w rfl tI) (by rw [e0]; rfl) (Rd.w rfl tI) (.sl rfl (by intro x hx; rcases zAl.1 hx with rfl; rfl)) (zB6 _) (LOk.of (tabOk.get rfl)) (LOk.of (tabOk.get rfl)) rfl rfl (by rw [e0]; simp only [zA5, zAb]; omega) (by rw [e0]; simp only [zA5, zAb]; omega) e2 (by rw [e0, e3]; rfl) ?_))
       refine aoQ rfl rfl rfl (fun hg => by exact PRun.sliceLoM tabOk rfl rfl nd rfl nd rfl ⟨by omega, by omega⟩) (by exact rfl) ?_
       refine aoE (apO (l := 2) (es := (out.take p ++ [n]).map encN) (es2 := (out.drop p).map encN) tabOk rfl rfl rfl (by decide) (Rd.w rfl tI) rfl (Rd.w rfl tI) (.sl rfl (one_encN _)) (LOk.of (tabOk.get rfl)) (LOk.of (tabOk.get rfl)) rfl rfl (by simp only [e3]; omega) (by simp only [e3]; omega) ?_)
       refine aoQ rfl rfl rfl (fun hg => by exact std0) (by exact rfl) ?_
       refine aoN (hK _ _ ?_)
       clear hK K'
       show AWP _ _ _ _ _ _
       refine AWP.unown9 5 rfl ?_
       repeat' (first | refine aoQ rfl rfl rfl (fun hg => by exact std0) (by exact rfl) ?_ | refine rgK (fun K' hK => ?_) | (refine aoN (hK _ _ ?_); clear hK K'))
       exact ⟨i + 1, hlt, by show bs.length - (i + 1) < bs.length - i; omega, ⟨rfl, rfl, (by rw [hsn, e4]; rfl), rfl, tI⟩, rfl⟩
 · obtain rfl : i = bs.length := by omega
   rw [zAr]
   generalize kindsL (keyT s.bars) (bs.map (·.note)) = out at *
   repeat' (first | refine aoQ rfl rfl rfl (fun hg => by first | exact std0 | exact std1) (by exact rfl) ?_ | refine sqW ?_ | refine rgK (fun K' hK => ?_) | (refine aoN (hK _ _ ?_); clear hK K') | refine aoE (stW tabOk rfl rfl rfl tI rfl rfl tI rfl rfl rfl rfl rfl rfl rfl ?_) | refine aoE (alW tabOk rfl rfl rfl rfl rfl rfl ?_) | refine cdN rfl tI (fun hc => ?_) (fun hc => ?_) | refine blK ?_ | refine exW ?_ | refine skW ?_ | refine rtW ?_)
   all_goals (first | (exfalso; omega) | skip)
   exact ⟨.inr rfl, Ent.of rfl⟩
end Go.Proofs.YtficfljjnbnhbaaGreatDoor.Bw
namespace Go.Proofs.YtficfljjnbnhbaaGreatDoor.Bw
open Go.Ab Mk
attribute [local irreducible] AWP AOps EStep AQ PStep PRun PCall TCall VCall DStep TDies AWD DCall
theorem flRd20 : flatN Tryz.prog 56 = some [.int .i64, .int .i64, .int .i64] := by kernel_rfl
theorem sameInts_spec (a : List Int) (ha : a.length ≤ 9223372036854775807) : PCall Tryz.prog 17 [.sl 1 (a.map eI) .no, .sl 1 (a.map eI) .no] (.b true) := by
 refine PCall.body Tryz.func17 rfl rfl Tryz.ntmps17 rfl rfl ?_
 repeat' (first | refine aoQ rfl rfl rfl (fun hg => by first | exact std0 | exact std1) (by exact rfl) ?_ | refine sqW ?_ | refine rgK (fun K' hK => ?_) | (refine aoN (hK _ _ ?_); clear hK K') | refine cdN rfl tI (fun hc => ?_) (fun hc => ?_) | refine blK ?_ | refine skW ?_ | refine rtW ?_)
 · exfalso; simp at hc
 clear hc
 refine lpW (ι := Nat) (fun k => [(0, .sl 1 (a.map eI) .no), (1, .sl 1 (a.map eI) .no), (5, .int k)]) (fun _ => []) (fun k => k ≤ a.length) (fun k => a.length - k) 0 (nZl _) ⟨rfl, rfl, rfl, tI⟩ rfl ?_
 intro k hk
 by_cases hlt : k < a.length
 · obtain ⟨u, hu⟩ : ∃ u, a.getD k default = u := ⟨_, rfl⟩
   repeat' (first | refine aoQ rfl rfl rfl (fun hg => by first | exact std0 | exact std1) (by exact rfl) ?_ | refine sqW ?_ | refine rgK (fun K' hK => ?_) | (refine aoN (hK _ _ ?_); clear hK K') | refine cdN rfl tI (fun hc => ?_) (fun hc => ?_) | refine blK ?_ | refine exW ?_ | refine skW ?_ | refine rtW ?_ | refine dK2 (by decide +kernel) (by kernel_rfl) (by decide +kernel) rfl (fun K' hK => ?_) | (refine aqN (hK _ ?_); clear hK K') | refine aqQ rfl rfl (fun hg => by first | exact iX eI a ((k : Nat) : Int) hu (hb := by omega) | exact std0) (by exact rfl) ?_)
   all_goals (first | (exfalso; omega) | (exfalso; simp at hc; done) | skip)
   exact ⟨k + 1, hlt, by show a.length - (k + 1) < a.length - k; omega, ⟨rfl, rfl, rfl, tI⟩, rfl⟩
 · repeat' (first | refine aoQ rfl rfl rfl (fun hg => by first | exact std0 | exact std1) (by exact rfl) ?_ | refine sqW ?_ | refine rgK (fun K' hK => ?_) | (refine aoN (hK _ _ ?_); clear hK K') | refine cdN rfl tI (fun hc => ?_) (fun hc => ?_) | refine blK ?_ | refine exW ?_ | refine skW ?_ | refine rtW ?_ | refine dK2 (by decide +kernel) (by kernel_rfl) (by decide +kernel) rfl (fun K' hK => ?_) | (refine aqN (hK _ ?_); clear hK K') | refine aqQ rfl rfl (fun hg => by first | exact std0 | exact std1) (by exact rfl) ?_)
   all_goals (first | (exfalso; omega) | skip)
   exact ⟨.inr rfl, Ent.b rfl⟩
set_option maxHeartbeats 8000000 in
set_option maxRecDepth 20000 in
theorem sameC_spec (l : List Cl) (hl : l.length ≤ 9223372036854775807) (hz : ∀ c ∈ l, c.Sized) : PCall Tryz.prog 14 [.sl 3 (l.map encC) .no, .sl 3 (l.map encC) .no] (.b true) := by
 refine PCall.body Tryz.func14 rfl rfl Tryz.ntmps14 rfl rfl ?_
 repeat' (first | refine aoQ rfl rfl rfl (fun hg => by first | exact std0 | exact std1) (by exact rfl) ?_ | refine sqW ?_ | refine rgK (fun K' hK => ?_) | (refine aoN (hK _ _ ?_); clear hK K') | refine cdN rfl tI (fun hc => ?_) (fun hc => ?_) | refine blK ?_ | refine skW ?_ | refine rtW ?_)
 · exfalso; simp at hc
 clear hc
 refine lpW (ι := Nat) (fun k => [(0, .sl 3 (l.map encC) .no), (1, .sl 3 (l.map encC) .no), (5, .int k)]) (fun _ => []) (fun k => k ≤ l.length) (fun k => l.length - k) 0 (nZl _) ⟨rfl, rfl, rfl, tI⟩ rfl ?_
 intro k hk
 by_cases hlt : k < l.length
 · obtain ⟨c, hc0⟩ : ∃ c, l.getD k default = c := ⟨_, rfl⟩
   have hcs := hz c (by rw [← hc0, getD_lt hlt]; exact lGm hlt)
   have q1 := sameInts_spec c.notes hcs.notes
   have q2 := sameInts_spec c.vals hcs.vals
   have hrl := hcs.rdrs
   repeat' (first | refine aoQ rfl rfl rfl (fun hg => by first | exact std0 | exact std1) (by exact rfl) ?_ | refine sqW ?_ | refine rgK (fun K' hK => ?_) | (refine aoN (hK _ _ ?_); clear hK K') | refine cdN rfl tI (fun hc => ?_) (fun hc => ?_) | refine blK ?_ | refine exW ?_ | refine skW ?_ | refine rtW ?_ | refine dK2 (by decide +kernel) (by kernel_rfl) (by decide +kernel) rfl (fun K' hK => ?_) | (refine aqN (hK _ ?_); clear hK K') | refine aqQ rfl rfl (fun hg => by first | exact iX encC l ((k : Nat) : Int) hc0 (hb := by omega) | exact std0 | exact pcW (q1) rfl rfl nd rfl nds | exact pcW (q2) rfl rfl nd rfl nds | exact std1) (by exact rfl) ?_)
   all_goals (first | (exfalso; omega) | (exfalso; simp at hc; done) | skip)
   refine lpW (ι := Nat) (fun j => [(0, .sl 3 (l.map encC) .no), (1, .sl 3 (l.map encC) .no), (5, .int k), (8, .int j)]) (fun _ => []) (fun j => j ≤ c.rdrs.length) (fun j => c.rdrs.length - j) 0 (nZl _) ⟨rfl, rfl, rfl, rfl, tI⟩ rfl ?_
   intro j hj
   by_cases hjl : j < c.rdrs.length
   · obtain ⟨r, hr⟩ : ∃ r, c.rdrs.getD j default = r := ⟨_, rfl⟩
     repeat' (first | refine aoQ rfl rfl rfl (fun hg => by first | exact iX encC l ((k : Nat) : Int) hc0 (hb := by omega) | exact std0 | exact std1) (by exact rfl) ?_ | refine sqW ?_ | refine rgK (fun K' hK => ?_) | (refine aoN (hK _ _ ?_); clear hK K') | refine cdN rfl tI (fun hc => ?_) (fun hc => ?_) | refine blK ?_ | refine exW ?_ | refine skW ?_ | refine rtW ?_ | refine dK2 (by decide +kernel) (by kernel_rfl) (by decide +kernel) rfl (fun K' hK => ?_) | (refine aqN (hK _ ?_); clear hK K') | refine aqQ rfl rfl (fun hg => by first | exact iX encRd c.rdrs ((j : Nat) : Int) hr (hb := by omega) | exact iX encC l ((k : Nat) : Int) hc0 (hb := by omega) | exact std0 | exact PRun.neN flRd20 rfl rfl nd rfl nd rfl) (by exact rfl) ?_)
     all_goals (first | (exfalso; omega) | (exfalso; simp at hc; done) | skip)
     exact ⟨j + 1, hjl, by show c.rdrs.length - (j + 1) < c.rdrs.length - j; omega, ⟨rfl, rfl, rfl, rfl, tI⟩, rfl⟩
   · repeat' (first | refine aoQ rfl rfl rfl (fun hg => by first | exact iX encC l ((k : Nat) : Int) hc0 (hb := by omega) | exact std0 | exact std1) (by exact rfl) ?_ | refine sqW ?_ | refine rgK (fun K' hK => ?_) | (refine aoN (hK _ _ ?_); clear hK K') | refine cdN rfl tI (fun hc => ?_) (fun hc => ?_) | refine blK ?_ | refine exW ?_ | refine skW ?_ | refine dK2 (by decide +kernel) (by kernel_rfl) (by decide +kernel) rfl (fun K' hK => ?_) | refine aqQ rfl rfl (fun hg => by first | exact iX encC l ((k : Nat) : Int) hc0 (hb := by omega) | exact std0 | exact std1) (by exact rfl) ?_)
     all_goals (first | (exfalso; omega) | skip)
     exact ⟨k + 1, hlt, by show l.length - (k + 1) < l.length - k; omega, ⟨rfl, rfl, rfl, tI⟩, rfl⟩
 · repeat' (first | refine aoQ rfl rfl rfl (fun hg => by first | exact std0 | exact std1) (by exact rfl) ?_ | refine sqW ?_ | refine rgK (fun K' hK => ?_) | (refine aoN (hK _ _ ?_); clear hK K') | refine cdN rfl tI (fun hc => ?_) (fun hc => ?_) | refine blK ?_ | refine exW ?_ | refine skW ?_ | refine rtW ?_ | refine dK2 (by decide +kernel) (by kernel_rfl) (by decide +kernel) rfl (fun K' hK => ?_) | refine aqQ rfl rfl (fun hg => by first | exact std0 | exact std1) (by exact rfl) ?_)
   all_goals (first | (exfalso; omega) | skip)
   exact ⟨.inr rfl, Ent.b rfl⟩
set_option maxHeartbeats 8000000 in
set_option maxRecDepth 20000 in
theorem rclash_spec (c : Cl) (hz : c.Sized) : PCall Tryz.prog 54 [.agg (encC c)] (.b (clOk c)) := by
 obtain ⟨z1, z2, z3⟩ := hz
 have h1 := has20_spec c.vals z2 1
 have h2 := has20_spec c.vals z2 2
 have hf := clForm_at c
 by_cases hl : clLen c = true
 · obtain ⟨e1, e2, e3⟩ := clLen_iff.1 hl
   unfold clOk
   generalize hasI c.vals 1 = x1 at *
   generalize hasI c.vals 2 = x2 at *
   refine PCall.body Tryz.func54 rfl rfl Tryz.ntmps54 rfl rfl ?_
   repeat' (first | refine aoQ rfl rfl rfl (fun hg => by first | exact std0 | exact std1) (by exact rfl) ?_ | refine sqW ?_ | refine rgK (fun K' hK => ?_) | (refine aoN (hK _ _ ?_); clear hK K') | refine aoE (bxW rfl rfl rfl rfl rfl tI rfl rfl ?_) | refine cdN rfl tI (fun hc => ?_) (fun hc => ?_) | refine blK ?_ | refine skW ?_ | refine rtW ?_)
   · exfalso
     simp [e1, e2] at hc
     omega
   clear hc
   refine lpW (ι := Nat) (fun k => [(1, .ptr 0 0), (3, .int k)]) (fun _ => [.var (encC c)]) (fun k => k ≤ c.notes.length ∧ ∀ j, j < k → clAt c j = true) (fun k => c.notes.length - k) 0 ⟨nZl _, fun j h => absurd h (by omega)⟩ ⟨rfl, rfl, tI⟩ rfl ?_
   rintro k ⟨hk, hall⟩
   by_cases hlt : k < c.notes.length
   · have hlt2 : k < c.vals.length := by omega
     have hlt3 : k < c.rdrs.length := by omega
     obtain ⟨n, hn⟩ : ∃ n, c.notes.getD k default = n := ⟨_, rfl⟩
     obtain ⟨v, hv⟩ : ∃ v, c.vals.getD k default = v := ⟨_, rfl⟩
     obtain ⟨r, hr⟩ : ∃ r, c.rdrs.getD k default = r := ⟨_, rfl⟩
     have hat : clAt c k = ((Jo.isRdr r && Jo.isId n) && Jo.inR v 1 2) := by unfold clAt; rw [hn, hv, hr]
     have v1 := rdr19_spec r
     have v2 := r20in_spec n 1 1000000
     have v3 := r20in_spec v 1 2
     rw [show Jo.inR n 1 1000000 = Jo.isId n from rfl] at v2
     generalize Jo.isRdr r = y1 at *
     generalize Jo.isId n = y2 at *
     generalize Jo.inR v 1 2 = y3 at *
     clear h1 h2
     repeat' (first | refine aoQ rfl rfl rfl (fun hg => by first | exact iX encRd c.rdrs ((k : Nat) : Int) hr (hb := by omega) | exact iX eI c.vals ((k : Nat) : Int) hv (hb := by omega) | exact iX eI c.notes ((k : Nat) : Int) hn (hb := by omega) | exact std0 | exact pcW (v1) rfl rfl nd rfl nds | exact pcW (v2) rfl rfl nd rfl nds | exact pcW (v3) rfl rfl nd rfl nds | exact std1) (by exact rfl) ?_ | refine sqW ?_ | refine rgK (fun K' hK => ?_) | (refine aoN (hK _ _ ?_); clear hK K') | refine cdN rfl tI (fun hc => ?_) (fun hc => ?_) | refine blK ?_ | refine exW ?_ | refine skW ?_ | refine rtW ?_)
     all_goals (first | (exfalso; omega) | skip)
     · refine ⟨.inr rfl, Ent.b ?_⟩
       have : clForm c = false := by
        cases hq : clForm c with
        | false => rfl
        | true =>
          have := (hf.1 hq).2 k hlt2
          rw [hat] at this
          revert this hc
          cases y1 <;> cases y2 <;> cases y3 <;> simp
       rw [this]; rfl
     · have hy : clAt c k = true := by
        rw [hat]
        revert hc
        cases y1 <;> cases y2 <;> cases y3 <;> simp
       exact ⟨k + 1, ⟨hlt, fun j hj => by
        rcases Nat.lt_succ_iff_lt_or_eq.1 hj with h | rfl
        · exact hall j h
        · exact hy⟩, by omega, ⟨rfl, rfl, tI⟩, rfl⟩
   · repeat' (first | refine aoQ rfl rfl rfl (fun hg => by first | exact std0 | exact pcW (h1) rfl rfl nd rfl nds | exact pcW (h2) rfl rfl nd rfl nds | exact std1) (by exact rfl) ?_ | refine sqW ?_ | refine rgK (fun K' hK => ?_) | (refine aoN (hK _ _ ?_); clear hK K') | refine cdN rfl tI (fun hc => ?_) (fun hc => ?_) | refine blK ?_ | refine exW ?_ | refine skW ?_ | refine rtW ?_)
     all_goals (first | (exfalso; omega) | skip)
     have : clForm c = true := hf.2 ⟨hl, fun j hj => hall j (by omega)⟩
     rw [this, zBl]
     exact ⟨.inr rfl, Ent.b rfl⟩
 · have hno : clOk c = false := by
    unfold clOk
    cases hq : clForm c with
    | false => rfl
    | true => exact absurd (hf.1 hq).1 hl
   have hbad : ¬ (c.notes.length = c.vals.length ∧ c.rdrs.length = c.vals.length ∧ c.vals.length ≤ 20000) := fun h => hl (clLen_iff.2 h)
   rw [hno]
   refine PCall.body Tryz.func54 rfl rfl Tryz.ntmps54 rfl rfl ?_
   repeat' (first | refine aoQ rfl rfl rfl (fun hg => by first | exact std0 | exact std1) (by exact rfl) ?_ | refine sqW ?_ | refine rgK (fun K' hK => ?_) | (refine aoN (hK _ _ ?_); clear hK K') | refine aoE (bxW rfl rfl rfl rfl rfl tI rfl rfl ?_) | refine cdN rfl tI (fun hc => ?_) (fun hc => ?_) | refine blK ?_ | refine skW ?_ | refine rtW ?_)
   · exact ⟨.inr rfl, Ent.b rfl⟩
   · exfalso
     apply hbad
     simp at hc
     omega
set_option maxHeartbeats 8000000 in
set_option maxRecDepth 20000 in
theorem rchoices_spec (c : Cl) (hz : c.Sized) : PCall Tryz.prog 16 [.agg (encC c)] (tupH (choR c)) := by
 have k := rclash_spec c hz
 by_cases hok : clOk c = true
 · have hR : choR c = ((selC c, leastC c), 0) := if_pos hok
   have o1 : clForm c = true := by
    unfold clOk at hok
    simp only [zA0] at hok
    exact hok.1
   obtain ⟨e1, e2, e3⟩ := clForm_iff o1
   have q1 := rOthers_spec c e1 (by omega) 1
   have q2 := rOthers_spec c e1 (by omega) 2
   rw [hok] at k
   rw [hR]
   have hsel : selC c = (if ((oth (psC c) 1).length : Int) == leastC c then [1] else []) ++ (if ((oth (psC c) 2).length : Int) == leastC c then [2] else []) := filt2 fun v => ((oth (psC c) v).length : Int) == leastC c
   rw [hsel]
   unfold leastC
   clear hsel hR
   generalize oth (psC c) 1 = a1 at *
   generalize oth (psC c) 2 = a2 at *
   refine PCall.bodyS tabOk Tryz.func16 rfl rfl Tryz.ntmps16 rfl ?_
   repeat' (first | refine aoQ rfl rfl rfl (fun hg => by first | exact std0 | exact pcW (k) rfl rfl nd rfl nds | exact pcW (q1) rfl rfl nd rfl nds | exact pcW (q2) rfl rfl nd rfl nds | exact pbS tabOk rfl rfl nds | exact std1) (by exact rfl) ?_ | refine sqW ?_ | refine rgK (fun K' hK => ?_) | (refine aoN (hK _ _ ?_); clear hK K') | refine aoE (bxW rfl rfl rfl rfl rfl tI rfl rfl ?_) | refine cdN rfl tI (fun hc => ?_) (fun hc => ?_) | refine skW ?_ | refine rtW ?_)
   all_goals (first | (exfalso; simp at hc; done) | skip)
   · have e : min ((a1.length : Nat) : Int) ((a2.length : Nat) : Int) = a1.length := by omega
     rw [e, if_pos (by simp), if_neg (by simp; omega)]
     exact ⟨.inr rfl, _, rfl, Ent.of rfl⟩
   · have e : min ((a1.length : Nat) : Int) ((a2.length : Nat) : Int) = a2.length := by omega
     rw [e, if_neg (by simp; omega), if_pos (by simp)]
     exact ⟨.inr rfl, _, rfl, Ent.of rfl⟩
   · have e2 : a2.length = a1.length := by omega
     rw [e2]
     have e : min ((a1.length : Nat) : Int) ((a1.length : Nat) : Int) = a1.length := by omega
     rw [e, if_pos (by simp), if_pos (by simp)]
     exact ⟨.inr rfl, _, rfl, Ent.of rfl⟩
 · have hno : clOk c = false := zCr _ ▸ hok
   have hR : choR c = (([], 0), 1) := if_neg hok
   rw [hR]
   rw [hno] at k
   refine PCall.bodyS tabOk Tryz.func16 rfl rfl Tryz.ntmps16 rfl ?_
   repeat' (first | refine aoQ rfl rfl rfl (fun hg => by first | exact std0 | exact pcW (k) rfl rfl nd rfl nds) (by exact rfl) ?_ | refine sqW ?_ | refine rgK (fun K' hK => ?_) | (refine aoN (hK _ _ ?_); clear hK K') | refine aoE (bxW rfl rfl rfl rfl rfl tI rfl rfl ?_) | refine cdN rfl tI (fun hc => ?_) (fun hc => ?_) | refine skW ?_ | refine rtW ?_)
   all_goals (first | (exact ⟨.inr rfl, _, rfl, entH 1⟩) | (exfalso; simp at hc; done))
end Go.Proofs.YtficfljjnbnhbaaGreatDoor.Bw
namespace Go.Proofs.YtficfljjnbnhbaaGreatDoor.Bw
open Go.Ab Go.Sort Mk
attribute [local irreducible] AWP AOps EStep AQ PStep PRun PCall TCall VCall DStep TDies AWD DCall
theorem keyLaw3 : KeyLaw Tryz.prog 88 ekT := keyLaw_triple (e := 3) (by kernel_rfl) (by kernel_rfl) (by kernel_rfl) (by kernel_rfl)
def nE (g : List Bow) : List (List AV) := g.map fun b => eI b.note.id
def vE (g : List Bow) : List (List AV) := g.map fun b => eI b.val
def rE (g : List Bow) : List (List AV) := g.map fun b => encRd b.rdr
def evC (N : Nat) : Option (List Bow × Nat) → AV
 | none => .agg [.nils, .nils, .nils]
 | some (g, j) => .agg [.sl 1 (nE g) (.own (8 + j)), .sl 1 (vE g) (.own (8 + N + j)), .sl 3 (rE g) (.own (8 + N + N + j))]
def evD : Option (List Bow) → AV
 | none => .agg [.nils, .nils, .nils]
 | some g => .agg [.sl 1 (nE g) .no, .sl 1 (vE g) .no, .sl 3 (rE g) .no]
def clE (g : List Bow) : List AV := [.sl 1 (nE g) .no, .sl 1 (vE g) .no, .sl 3 (rE g) .no]
theorem encC_clOf (g : List Bow) : encC (clOf g) = clE g := by
 unfold encC clOf clE nE vE rE
 simp only [zC6]; rfl
def mapO (al : GB3) : List (K3 × Option (List Bow × Nat)) := al.map fun p => (p.1, some p.2)
theorem lk_mapO (al : GB3) (k : K3) : lk (mapO al) k = (lk al k).map some := by
 unfold mapO
 induction al with
 | nil => rfl
 | cons p r ih =>
   simp only [zAz, lk]
   split
   · rfl
   · exact ih
theorem ins_mapO (al : GB3) (k : K3) (v : List Bow × Nat) : ins (mapO al) k (some v) = mapO (ins al k v) := by
 unfold mapO
 induction al with
 | nil => rfl
 | cons p r ih =>
   obtain ⟨x, y⟩ := p
   simp only [zAz, ins]
   split
   · rfl
   · rw [ih]; rfl
def tupC (r : List (List Bow) × Int) : AV := .tup [.sl 3 (r.1.map clE) .no, .int r.2]
structure In20 (s : Score) (l : List Jo.Mark) (sec : Int) (ex : List Int) : Prop where
 small : s.Small
 parts : s.parts.length ≤ 100
 notes : s.notes.length ≤ 1000
 bars : s.bars.length ≤ 1000000
 marks : l.length ≤ 1000000
 texts : TextsIn l
 exs : ex.length ≤ 1000000
 bows : formB s l sec ex = true → (bowsL s l sec ex).length ≤ 20000
end Go.Proofs.YtficfljjnbnhbaaGreatDoor.Bw
