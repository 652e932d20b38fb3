/- The law BowingOther by content. No statement is proved here. -/
import Derived.Test.YtficfljjnbnhbaaGreatDoorP32
set_option linter.unusedVariables false
set_option linter.unusedSimpArgs false
namespace Go.Proofs.YtficfljjnbnhbaaGreatDoor.Bw
open Go.Ab Go.Sort Mk
attribute [local irreducible] AWP AOps EStep AQ PStep PRun PCall TCall VCall DStep TDies AWD DCall
theorem filt_take {α : Type} [Inhabited α] (q : α → Bool) {l : List α} {k : Nat} (h : k < l.length) {m : α} (hm : l.getD k default = m) : (l.take (k + 1)).filter q = if q m = true then (l.take k).filter q ++ [m] else (l.take k).filter q := by
 rw [takeS' h, hm, zBa]
 split
 · rename_i h1; rw [zB3 h1, zC0]
 · rename_i h1; rw [zB8 h1, zC0, zBh]
theorem own_marks {l : List Jo.Mark} (h : marksOk l = true) (q : Jo.Mark → Bool) : marksOk (l.filter q) = true := by
 unfold marksOk at h ⊢
 simp only [zA0, dEt, zA8] at h ⊢
 obtain ⟨⟨h1, h2⟩, h3⟩ := h
 exact ⟨⟨fun m hm => h1 m (zBn.1 hm).1, (List.filter_sublist.map _).nodup h2⟩, zBb (zB2 _ _) h3⟩
set_option maxHeartbeats 32000000 in
set_option maxRecDepth 20000 in
theorem other_law (s : Score) (hs : s.Sized) (l : List Jo.Mark) (hl : l.length ≤ 9223372036854775807) (ht : TextsIn l) (sec : Int) (ex : List Int) (hex : ex.length ≤ 9223372036854775807) :
 PCall Tryz.prog 9 [.agg (encS s), .sl 10 (l.map encMk) .no, .int sec, .sl 1 (ex.map eI) .no] (.b true) := by
 have hh := head20
 have u1 := usable20_spec s hs l hl ht sec ex hex
 rw [show ((few20 s l && decide ((ex.length : Int) ≤ 60)) && formB s l sec ex) = use20 s l sec ex from rfl] at u1
 cases hu : use20 s l sec ex with
 | false =>
   rw [hu] at u1
   refine PCall.body Tryz.func9 rfl rfl Tryz.ntmps9 rfl rfl ?_
   repeat' (first | refine aoQ rfl rfl rfl (fun hg => by first | exact std0 | exact pcW (hh) rfl rfl nd rfl nds | exact pcW (u1) rfl rfl nd rfl nds | exact std1) (by exact rfl) ?_ | refine sqW ?_ | refine rgK (fun K' hK => ?_) | (refine aoN (hK _ _ ?_); clear hK K') | refine aoE (bxW rfl rfl rfl rfl rfl tI rfl rfl ?_) | refine aoE (stW tabOk rfl rfl rfl tI rfl rfl tI rfl rfl rfl rfl rfl rfl rfl ?_) | refine aoE (alW tabOk rfl rfl rfl rfl rfl rfl ?_) | refine cdN rfl tI (fun hc => ?_) (fun hc => ?_) | refine blK ?_ | refine exW ?_ | refine skW ?_ | refine rtW ?_ | refine dK2 (by decide +kernel) (by kernel_rfl) (by decide +kernel) rfl (fun K' hK => ?_) | refine dL2 (by kernel_rfl) (by decide +kernel) rfl (fun K' hK => ?_) | (refine aqN (hK _ ?_); clear hK K') | refine aqN ?_ | refine aqQ rfl rfl (fun hg => by first | exact std0 | exact pcW (hh) rfl rfl nd rfl nds | exact pcW (u1) rfl rfl nd rfl nds | exact std1) (by exact rfl) ?_)
   all_goals (first | exact dd | skip)
   exact ⟨.inr rfl, Ent.b rfl⟩
 | true =>
   rw [hu] at u1
   obtain ⟨w1, w2, hf⟩ := use_parts hu
   obtain ⟨b1, b2, b3, b4⟩ := few20_iff.1 w1
   obtain ⟨hok, hmk, hsec, f4, f5⟩ := form_parts hf
   have h20 : In20 s l sec ex := in20 w1 ht (by omega)
   have c1 := clashes_ok h20 hf
   have c2 := clashes_ok (in20' hok b1 b2 b3 (l := l.filter (ownB s.version)) (zBb (zB2 _ _) (by omega)) (fun m hm => ht m (zBn.1 hm).1) (by omega : ex.length ≤ 1000000)) (form_of hok (own_marks hmk _) hsec f4 f5)
   have he : clashes s (l.filter (ownB s.version)) sec ex = clashes s l sec ex := by unfold clashes; rw [bows_own hmk]
   rw [he] at c2
   obtain ⟨g1, g2⟩ := clash_small (h20.bows hf)
   have c3 := sameL_spec (clashes s l sec ex) (by omega) (fun g hg => by have := g2 g hg; omega)
   generalize clashes s l sec ex = gs at *
   clear hf h20 he
   refine PCall.body Tryz.func9 rfl rfl Tryz.ntmps9 rfl rfl ?_
   repeat' (first | refine aoQ rfl rfl rfl (fun hg => by first | exact std0 | exact pcW (hh) rfl rfl nd rfl nds | exact pcW (u1) rfl rfl nd rfl nds | exact std1) (by exact rfl) ?_ | refine sqW ?_ | refine rgK (fun K' hK => ?_) | (refine aoN (hK _ _ ?_); clear hK K') | refine aoE (bxW rfl rfl rfl rfl rfl tI rfl rfl ?_) | refine aoE (stW tabOk rfl rfl rfl tI rfl rfl tI rfl rfl rfl rfl rfl rfl rfl ?_) | refine aoE (alW tabOk rfl rfl rfl rfl rfl rfl ?_) | refine cdN rfl tI (fun hc => ?_) (fun hc => ?_) | refine blK ?_ | refine exW ?_ | refine skW ?_ | refine rtW ?_ | refine dK2 (by decide +kernel) (by kernel_rfl) (by decide +kernel) rfl (fun K' hK => ?_) | refine dL2 (by kernel_rfl) (by decide +kernel) rfl (fun K' hK => ?_) | (refine aqN (hK _ ?_); clear hK K') | refine aqN ?_ | refine aqQ rfl rfl (fun hg => by first | exact std0 | exact pcW (hh) rfl rfl nd rfl nds | exact pcW (u1) rfl rfl nd rfl nds | exact std1) (by exact rfl) ?_)
   all_goals (first | exact dd | skip)
   clear hh u1
   refine AWP.ownNil (d := 10) (sz := 10) rfl ?_
   refine lpD (ι := Nat) (fun i => [(1, .sl 10 (l.map encMk) .no), (2, .int sec), (3, .sl 1 (ex.map eI) .no), (4, .ptr 0 0), (9, .b true), (10, .sl 10 (((l.take i).filter (ownB s.version)).map encMk) (.own 1)), (25, .sl 10 (l.map encMk) .no), (26, .int l.length), (27, .int i)]) (fun i => [.var (encS s), .own 10 (((l.take i).filter (ownB s.version)).map encMk).length])
    (fun i => i ≤ l.length) (fun i => l.length - i) 2 (fun _ => rfl) 0 (nZl _) ⟨rfl, rfl, rfl, rfl, rfl, rfl, rfl, rfl, rfl, tI⟩ rfl (fun _ _ => rfl) (fun _ _ => rfl) ?_
   intro i hi
   by_cases hlt : i < l.length
   · obtain ⟨m, hm⟩ : ∃ m, l.getD i default = m := ⟨_, rfl⟩
     have hst := filt_take (ownB s.version) hlt hm
     have hlen : ((l.take i).filter (ownB s.version)).length ≤ i := zBb (zB2 _ _) (by rw [zAc]; omega)
     have hob : ownB s.version m = ((m.kind == 1 && m.version == s.version) && (m.layer != 1 || m.who.seat == 1)) := rfl
     generalize (l.take i).filter (ownB s.version) = A at *
     repeat' (first | refine aoQ rfl rfl rfl (fun hg => by first | exact iX encMk l ((i : Nat) : Int) hm (hb := by omega) | exact std0 | exact pbS tabOk rfl rfl nds | exact std1) (by exact rfl) ?_ | refine sqW ?_ | refine rgK (fun K' hK => ?_) | (refine aoN (hK _ _ ?_); clear hK K') | refine aoE (bxW rfl rfl rfl rfl rfl tI rfl rfl ?_) | refine aoE (stW tabOk rfl rfl rfl tI rfl rfl tI rfl rfl rfl rfl rfl rfl rfl ?_) | refine aoE (alW tabOk rfl rfl rfl rfl rfl rfl ?_) | refine aoE (apO tabOk rfl rfl rfl (by decide) (Rd.w rfl tI) rfl (Rd.w rfl tI) (.sl rfl (by first | (intro x hx; rcases zAl.1 hx with rfl; rfl) | exact one_encMk [m])) (LOk.of (tabOk.get rfl)) (LOk.of (tabOk.get rfl)) rfl rfl (by simp only [lLm, lLa, zA5, zAb, zAc, zAx]; omega) (by simp only [lLm, lLa, zA5, zAb, zAc, zAx]; omega) ?_) | refine cdN rfl tI (fun hc => ?_) (fun hc => ?_) | refine blK ?_ | refine exW ?_ | refine skW ?_ | refine rtW ?_ | refine dK2 (by decide +kernel) (by kernel_rfl) (by decide +kernel) rfl (fun K' hK => ?_) | refine dL2 (by kernel_rfl) (by decide +kernel) rfl (fun K' hK => ?_) | (refine aqN (hK _ ?_); clear hK K') | refine aqN ?_ | refine aqQ rfl rfl (fun hg => by first | exact iX encMk l ((i : Nat) : Int) hm (hb := by omega) | exact std0 | exact pbS tabOk rfl rfl nds | exact std1) (by exact rfl) ?_)
     all_goals (first | exact dd | skip)
     · rw [hob, if_pos hc] at hst
       exact ⟨i + 1, hlt, by show l.length - (i + 1) < l.length - i; omega, ⟨rfl, rfl, rfl, rfl, rfl, (by rw [hst, zAe]; rfl), rfl, rfl, rfl, tI⟩, by rw [hst, zAe]; rfl⟩
     · rw [hob, if_neg (by rw [hc]; decide)] at hst
       exact ⟨i + 1, hlt, by show l.length - (i + 1) < l.length - i; omega, ⟨rfl, rfl, rfl, rfl, rfl, (by rw [hst]; rfl), rfl, rfl, rfl, tI⟩, by rw [hst]; rfl⟩
   · obtain rfl : i = l.length := by omega
     rw [zAr]
     generalize l.filter (ownB s.version) = l2 at *
     repeat' (first | refine aoQ rfl rfl rfl (fun hg => by first | exact std0 | exact pcW (c1) rfl rfl nd rfl nds | exact pcW (c2) rfl rfl nd rfl nds | exact pcW (c3) rfl rfl nd rfl nds | exact std1) (by exact rfl) ?_ | refine sqW ?_ | refine rgK (fun K' hK => ?_) | (refine aoN (hK _ _ ?_); clear hK K') | refine aoE (bxW rfl rfl rfl rfl rfl tI rfl rfl ?_) | refine aoE (stW tabOk rfl rfl rfl tI rfl rfl tI rfl rfl rfl rfl rfl rfl rfl ?_) | refine aoE (alW tabOk rfl rfl rfl rfl rfl rfl ?_) | refine cdN rfl tI (fun hc => ?_) (fun hc => ?_) | refine blK ?_ | refine exW ?_ | refine skW ?_ | refine rtW ?_ | refine dK2 (by decide +kernel) (by kernel_rfl) (by decide +kernel) rfl (fun K' hK => ?_) | refine dL2 (by kernel_rfl) (by decide +kernel) rfl (fun K' hK => ?_) | (refine aqN (hK _ ?_); clear hK K') | refine aqN ?_ | refine aqQ rfl rfl (fun hg => by first | exact std0 | exact pcW (c1) rfl rfl nd rfl nds | exact pcW (c2) rfl rfl nd rfl nds | exact pcW (c3) rfl rfl nd rfl nds | exact std1) (by exact rfl) ?_)
     all_goals (first | exact dd | skip)
     exact ⟨.inr rfl, Ent.b rfl⟩
end Go.Proofs.YtficfljjnbnhbaaGreatDoor.Bw
