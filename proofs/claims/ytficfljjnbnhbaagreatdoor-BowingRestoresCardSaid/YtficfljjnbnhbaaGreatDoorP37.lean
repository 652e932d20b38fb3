/- The law BowingRestores by content. No statement is proved here. -/
import Derived.Test.YtficfljjnbnhbaaGreatDoorP32
set_option linter.unusedVariables false
set_option linter.unusedSimpArgs false
namespace Go.Proofs.YtficfljjnbnhbaaGreatDoor.Bw
open Go.Ab Go.Sort Mk
attribute [local irreducible] AWP AOps EStep AQ PStep PRun PCall TCall VCall DStep TDies AWD DCall
theorem getD_right {α : Type} [Inhabited α] {a b : List α} {k : Nat} (h : a.length ≤ k) : (a ++ b).getD k default = b.getD (k - a.length) default := by
 rw [zCe, zA4 h, zCe]
theorem new_at {v sec id : Int} {l : List Jo.Mark} {fx : List (Int × Int)} {k : Nat} (h1 : l.length ≤ k) (h2 : k < (resL v sec l id fx).length) {m : Jo.Mark} (hm : (resL v sec l id fx).getD k default = m) :
 m.id = id + k - l.length ∧ ∃ n w, (n, w) ∈ fx ∧ m = newM v sec l (id + ((k - l.length : Nat) : Int)) n w ∧ m.note = n := by
 unfold resL at h2 hm
 rw [lLa, news_len] at h2
 rw [getD_right h1, news_at v sec l fx id (k - l.length) (by omega)] at hm
 obtain ⟨i1, _, _, i4, _⟩ := newM_ids v sec l (id + ((k - l.length : Nat) : Int)) (fx.getD (k - l.length) default).1 (fx.getD (k - l.length) default).2
 rw [hm] at i1 i4
 refine ⟨by rw [i1]; omega, _, _, getD_mem (show k - l.length < fx.length by omega), hm.symm, i4⟩
theorem marks_id {l : List Jo.Mark} {id : Int} (h : (l.any fun m => decide (m.id ≥ id)) = false) : ∀ m ∈ l, m.id < id := fun m hm => by
 have := zDc.1 h m hm
 simp at this; omega
theorem res_ok {s : Score} {l : List Jo.Mark} {sec : Int} {ex : List Int} {id : Int} (hok : scoreOk s = true) (hmk : marksOk l = true) (hsec : Jo.inR sec 0 99 = true) (hid : Jo.isId id = true) (hlt : ∀ m ∈ l, m.id < id) (hb : bigR l.length (fixL (clashes s l sec ex)).length id = false) :
 marksOk (resL s.version sec l id (fixL (clashes s l sec ex))) = true ∧ (resL s.version sec l id (fixL (clashes s l sec ex))).length = l.length + (fixL (clashes s l sec ex)).length := by
 have hlen : (resL s.version sec l id (fixL (clashes s l sec ex))).length = l.length + (fixL (clashes s l sec ex)).length := by unfold resL; rw [lLa, news_len]
 refine ⟨?_, hlen⟩
 have h := hmk
 unfold marksOk at h ⊢
 simp only [zA0, dEt, zA8] at h ⊢
 obtain ⟨⟨h1, h2⟩, h3⟩ := h
 unfold bigR at hb
 simp only [zAh, dEf] at hb
 obtain ⟨hb1, hb2⟩ := hb
 unfold Jo.isId Jo.inR at hid
 unfold Jo.inR at hsec
 simp only [zA0, dEt] at hid hsec
 refine ⟨⟨fun m hm => ?_, res_nodup h2 hlt⟩, by omega⟩
 rcases zB5.1 hm with hm | hm
 · exact h1 m hm
 · obtain ⟨k, hk, rfl⟩ := mem_news hm
   have hp : ((fixL (clashes s l sec ex)).getD k default) ∈ fixL (clashes s l sec ex) := getD_mem hk
   obtain ⟨hw, _⟩ := mem_fix (n := ((fixL (clashes s l sec ex)).getD k default).1) (w := ((fixL (clashes s l sec ex)).getD k default).2) hp
   exact newM_ok ⟨by omega, by omega⟩ (ver_in hok) (fix_note hok (w := ((fixL (clashes s l sec ex)).getD k default).2) hp) hw hsec l
theorem res_texts {v sec id : Int} {l : List Jo.Mark} {fx : List (Int × Int)} (ht : TextsIn l) : TextsIn (resL v sec l id fx) := fun m hm => by
 rcases zB5.1 hm with hm | hm
 · exact ht m hm
 · obtain ⟨k, _, rfl⟩ := mem_news hm
   obtain ⟨_, _, _, _, _, h⟩ := newM_ids v sec l (id + k) (fx.getD k default).1 (fx.getD k default).2
   rw [h]; exact nZl _
set_option maxHeartbeats 32000000 in
set_option maxRecDepth 20000 in
theorem restores_law (s : Score) (hs : s.Sized) (l : List Jo.Mark) (hl : l.length ≤ 9223372036854775807) (ht : TextsIn l) (sec : Int) (ex : List Int) (hex : ex.length ≤ 9223372036854775807) (id : Int) :
 PCall Tryz.prog 5 [.agg (encS s), .sl 10 (l.map encMk) .no, .int sec, .sl 1 (ex.map eI) .no, .int id] (.b true) := by
 have hh := head20
 have u1 := usable20_spec s hs l hl ht sec ex hex
 rw [show ((few20 s l && decide ((ex.length : Int) ≤ 60)) && formB s l sec ex) = use20 s l sec ex from rfl] at u1
 cases hu : use20 s l sec ex with
 | false =>
   rw [hu] at u1
   refine PCall.body Tryz.func5 rfl rfl Tryz.ntmps5 rfl rfl ?_
   repeat' (first | refine aoQ rfl rfl rfl (fun hg => by first | exact std0 | exact pcW (hh) rfl rfl nd rfl nds | exact pcW (u1) rfl rfl nd rfl nds | exact std1) (by exact rfl) ?_ | refine sqW ?_ | refine rgK (fun K' hK => ?_) | (refine aoN (hK _ _ ?_); clear hK K') | refine aoE (bxW rfl rfl rfl rfl rfl tI rfl rfl ?_) | refine aoE (stW tabOk rfl rfl rfl tI rfl rfl tI rfl rfl rfl rfl rfl rfl rfl ?_) | refine aoE (alW tabOk rfl rfl rfl rfl rfl rfl ?_) | refine cdN rfl tI (fun hc => ?_) (fun hc => ?_) | refine blK ?_ | refine exW ?_ | refine skW ?_ | refine rtW ?_ | refine dK2 (by decide +kernel) (by kernel_rfl) (by decide +kernel) rfl (fun K' hK => ?_) | refine dL2 (by kernel_rfl) (by decide +kernel) rfl (fun K' hK => ?_) | (refine aqN (hK _ ?_); clear hK K') | refine aqN ?_ | refine aqQ rfl rfl (fun hg => by first | exact std0 | exact pcW (hh) rfl rfl nd rfl nds | exact pcW (u1) rfl rfl nd rfl nds | exact std1) (by exact rfl) ?_)
   all_goals (first | exact dd | skip)
   exact ⟨.inr rfl, Ent.b rfl⟩
 | true =>
   rw [hu] at u1
   obtain ⟨w1, w2, hf⟩ := use_parts hu
   obtain ⟨b1, b2, b3, b4⟩ := few20_iff.1 w1
   obtain ⟨hok, hmk, hsec, f4, f5⟩ := form_parts hf
   have h20 : In20 s l sec ex := in20 w1 ht (by omega)
   have c1 := clashes_ok h20 hf
   have c3 := restore_spec h20 id (clashes_spec h20)
   by_cases hbad : (!Jo.isId id || l.any fun m => decide (m.id ≥ id)) = true
   · rw [show restoreR s l sec ex id = (([], 0), 1) by unfold restoreR; rw [if_pos hf, if_pos hbad]] at c3
     refine PCall.body Tryz.func5 rfl rfl Tryz.ntmps5 rfl rfl ?_
     repeat' (first | refine aoQ rfl rfl rfl (fun hg => by first | exact std0 | exact pcW (hh) rfl rfl nd rfl nds | exact pcW (u1) rfl rfl nd rfl nds | exact pcW (c1) rfl rfl nd rfl nds | exact pcW (c3) rfl rfl nd rfl nds | exact std1) (by exact rfl) ?_ | refine sqW ?_ | refine rgK (fun K' hK => ?_) | (refine aoN (hK _ _ ?_); clear hK K') | refine aoE (bxW rfl rfl rfl rfl rfl tI rfl rfl ?_) | refine aoE (stW tabOk rfl rfl rfl tI rfl rfl tI rfl rfl rfl rfl rfl rfl rfl ?_) | refine aoE (alW tabOk rfl rfl rfl rfl rfl rfl ?_) | refine cdN rfl tI (fun hc => ?_) (fun hc => ?_) | refine blK ?_ | refine exW ?_ | refine skW ?_ | refine rtW ?_ | refine dK2 (by decide +kernel) (by kernel_rfl) (by decide +kernel) rfl (fun K' hK => ?_) | refine dL2 (by kernel_rfl) (by decide +kernel) rfl (fun K' hK => ?_) | (refine aqN (hK _ ?_); clear hK K') | refine aqN ?_ | refine aqQ rfl rfl (fun hg => by first | exact std0 | exact pcW (hh) rfl rfl nd rfl nds | exact pcW (u1) rfl rfl nd rfl nds | exact pcW (c1) rfl rfl nd rfl nds | exact pcW (c3) rfl rfl nd rfl nds | exact std1) (by exact rfl) ?_)
     all_goals (first | exact dd | skip)
     exact ⟨.inr rfl, Ent.b rfl⟩
   · cases hbig : bigR l.length (fixL (clashes s l sec ex)).length id with
     | true =>
       rw [show restoreR s l sec ex id = (([], 0), 2) by unfold restoreR; rw [if_pos hf, if_neg hbad, if_pos hbig]] at c3
       refine PCall.body Tryz.func5 rfl rfl Tryz.ntmps5 rfl rfl ?_
       repeat' (first | refine aoQ rfl rfl rfl (fun hg => by first | exact std0 | exact pcW (hh) rfl rfl nd rfl nds | exact pcW (u1) rfl rfl nd rfl nds | exact pcW (c1) rfl rfl nd rfl nds | exact pcW (c3) rfl rfl nd rfl nds | exact std1) (by exact rfl) ?_ | refine sqW ?_ | refine rgK (fun K' hK => ?_) | (refine aoN (hK _ _ ?_); clear hK K') | refine aoE (bxW rfl rfl rfl rfl rfl tI rfl rfl ?_) | refine aoE (stW tabOk rfl rfl rfl tI rfl rfl tI rfl rfl rfl rfl rfl rfl rfl ?_) | refine aoE (alW tabOk rfl rfl rfl rfl rfl rfl ?_) | refine cdN rfl tI (fun hc => ?_) (fun hc => ?_) | refine blK ?_ | refine exW ?_ | refine skW ?_ | refine rtW ?_ | refine dK2 (by decide +kernel) (by kernel_rfl) (by decide +kernel) rfl (fun K' hK => ?_) | refine dL2 (by kernel_rfl) (by decide +kernel) rfl (fun K' hK => ?_) | (refine aqN (hK _ ?_); clear hK K') | refine aqN ?_ | refine aqQ rfl rfl (fun hg => by first | exact std0 | exact pcW (hh) rfl rfl nd rfl nds | exact pcW (u1) rfl rfl nd rfl nds | exact pcW (c1) rfl rfl nd rfl nds | exact pcW (c3) rfl rfl nd rfl nds | exact std1) (by exact rfl) ?_)
       all_goals (first | exact dd | skip)
       exact ⟨.inr rfl, Ent.b rfl⟩
     | false =>
       rw [show restoreR s l sec ex id = ((resL s.version sec l id (fixL (clashes s l sec ex)), ((fixL (clashes s l sec ex)).length : Int)), 0) by unfold restoreR; rw [if_pos hf, if_neg hbad, if_neg (by rw [hbig]; decide)]] at c3
       have hbad2 : Jo.isId id = true ∧ (l.any fun m => decide (m.id ≥ id)) = false := by
        cases h1 : Jo.isId id <;> cases h2 : (l.any fun m => decide (m.id ≥ id)) <;> simp_all
       have hlt := marks_id hbad2.2
       have hidr : 1 ≤ id ∧ id ≤ 1000000 := by
        have h := hbad2.1
        unfold Jo.isId Jo.inR at h
        simpa using h
       obtain ⟨hM, hML⟩ := res_ok (ex := ex) hok hmk hsec hbad2.1 hlt hbig
       have hMt : TextsIn (resL s.version sec l id (fixL (clashes s l sec ex))) := res_texts ht
       have hML2 : (resL s.version sec l id (fixL (clashes s l sec ex))).length ≤ 20000 := by
        unfold bigR at hbig
        simp only [zAh, dEf] at hbig
        omega
       have c4 := clashes_ok (in20' hok b1 b2 b3 (by omega) hMt (by omega : ex.length ≤ 1000000)) (form_of hok hM hsec f4 f5)
       rw [restores hok hmk hlt] at c4
       have hfn := fix_nil (s := s) (l := l) (sec := sec) (ex := ex)
       have hnew := fun k h1 h2 m hm => new_at (v := s.version) (sec := sec) (id := id) (l := l) (fx := fixL (clashes s l sec ex)) (k := k) h1 h2 (m := m) hm
       have hin : ∀ n w, (n, w) ∈ fixL (clashes s l sec ex) → ((clashes s l sec ex).any fun g => hasI (g.map fun b => b.note.id) n) = true := fun n w h => by
        obtain ⟨_, g, hgg, b, hb, _, e⟩ := mem_fix h
        rw [zBw]
        exact ⟨g, hgg, hasI_iff.2 (zAi.2 ⟨b, hb, e⟩)⟩
       have htake : (resL s.version sec l id (fixL (clashes s l sec ex))).take l.length = l := by unfold resL; exact List.take_left ..
       obtain ⟨g1, g2⟩ := clash_small (h20.bows hf)
       have c5 := same19_spec ((resL s.version sec l id (fixL (clashes s l sec ex))).take l.length) l (by rw [zAc]; omega) hl
       have hbe : ((resL s.version sec l id (fixL (clashes s l sec ex))).take l.length == l) = true := by rw [htake]; exact beq_self_eq_true l
       rw [hbe] at c5
       have hMv : ∀ m ∈ resL s.version sec l id (fixL (clashes s l sec ex)), Jo.markOk m = true := fun m hm => by
        have h := hM
        unfold marksOk at h
        simp only [zA0, zA8] at h
        exact h.1.1 m hm
       clear hM htake hbe h20 hf hbad hbig
       generalize resL s.version sec l id (fixL (clashes s l sec ex)) = M at *
       generalize hfx : fixL (clashes s l sec ex) = fx at *
       generalize clashes s l sec ex = gs at *
       have c3 : PCall Tryz.prog 18 [.agg (encS s), .sl 10 (l.map encMk) .no, .int sec, .sl 1 (ex.map eI) .no, .int id] (.tup [.sl 10 (M.map encMk) .no, .int fx.length, .int 0]) := c3
       refine PCall.body Tryz.func5 rfl rfl Tryz.ntmps5 rfl rfl ?_
       repeat' (first | refine aoQ rfl rfl rfl (fun hg => by first | exact std0 | exact pcW (hh) rfl rfl nd rfl nds | exact pcW (u1) rfl rfl nd rfl nds | exact pcW (c1) rfl rfl nd rfl nds | exact pcW (c3) rfl rfl nd rfl nds | exact pcW (c5) rfl rfl nd rfl nds | exact PRun.sliceHiM tabOk rfl rfl nd rfl nd rfl ⟨by omega, by omega⟩ | exact std1) (by exact rfl) ?_ | refine sqW ?_ | refine rgK (fun K' hK => ?_) | (refine aoN (hK _ _ ?_); clear hK K') | refine aoE (bxW rfl rfl rfl rfl rfl tI rfl rfl ?_) | refine aoE (stW tabOk rfl rfl rfl tI rfl rfl tI rfl rfl rfl rfl rfl rfl rfl ?_) | refine aoE (alW tabOk rfl rfl rfl rfl rfl rfl ?_) | refine cdN rfl tI (fun hc => ?_) (fun hc => ?_) | refine blK ?_ | refine exW ?_ | refine skW ?_ | refine rtW ?_ | refine dK2 (by decide +kernel) (by kernel_rfl) (by decide +kernel) rfl (fun K' hK => ?_) | refine dL2 (by kernel_rfl) (by decide +kernel) rfl (fun K' hK => ?_) | (refine aqN (hK _ ?_); clear hK K') | refine aqN ?_ | refine aqQ rfl rfl (fun hg => by first | exact std0 | exact pcW (hh) rfl rfl nd rfl nds | exact pcW (u1) rfl rfl nd rfl nds | exact pcW (c1) rfl rfl nd rfl nds | exact pcW (c3) rfl rfl nd rfl nds | exact pcW (c5) rfl rfl nd rfl nds | exact PRun.sliceHiM tabOk rfl rfl nd rfl nd rfl ⟨by omega, by omega⟩ | exact std1) (by exact rfl) ?_)
       all_goals (first | exact dd | skip)
       clear hh u1 c1 c3 c5
       refine lpD (ι := Nat) (fun k => [(1, .sl 10 (l.map encMk) .no), (2, .int sec), (3, .sl 1 (ex.map eI) .no), (4, .int id), (5, .ptr 0 0), (11, .b true), (12, .sl 3 (gs.map clE) .no), (14, .sl 10 (M.map encMk) .no), (15, .int fx.length), (17, .int k)]) (fun _ => [.var (encS s)])
        (fun k => l.length ≤ k ∧ k ≤ M.length) (fun k => M.length - k) 1 (fun _ => rfl) l.length ⟨nLr _, by omega⟩ ⟨rfl, rfl, rfl, rfl, rfl, rfl, rfl, rfl, rfl, rfl, tI⟩ rfl (fun _ _ => rfl) (fun _ _ => rfl) ?_
       rintro k ⟨hk0, hk⟩
       by_cases hlt : k < M.length
       · obtain ⟨m, hm⟩ : ∃ m, M.getD k default = m := ⟨_, rfl⟩
         obtain ⟨n1, n, w, n2, _, n3⟩ := hnew k hk0 hlt m hm
         have hmm : m ∈ M := by rw [← hm]; exact getD_mem hlt
         have v1 := Mk.mvalid_spec m (hMt m hmm)
         rw [hMv m hmm] at v1
         have hall := hin n w n2
         rw [← n3] at hall
         repeat' (first | refine aoQ rfl rfl rfl (fun hg => by first | exact std0 | exact std1) (by exact rfl) ?_ | refine sqW ?_ | refine rgK (fun K' hK => ?_) | (refine aoN (hK _ _ ?_); clear hK K') | refine aoE (bxW rfl rfl rfl rfl rfl tI rfl rfl ?_) | refine aoE (stW tabOk rfl rfl rfl tI rfl rfl tI rfl rfl rfl rfl rfl rfl rfl ?_) | refine aoE (alW tabOk rfl rfl rfl rfl rfl rfl ?_) | refine cdN rfl tI (fun hc => ?_) (fun hc => ?_) | refine blK ?_ | refine exW ?_ | refine skW ?_ | refine rtW ?_ | refine dK2 (by decide +kernel) (by kernel_rfl) (by decide +kernel) rfl (fun K' hK => ?_) | refine dL2 (by kernel_rfl) (by decide +kernel) rfl (fun K' hK => ?_) | (refine aqN (hK _ ?_); clear hK K') | refine aqN ?_ | refine aqQ rfl rfl (fun hg => by first | exact std0 | exact std1) (by exact rfl) ?_)
         all_goals (first | exact dd | skip)
         refine lpD (ι := Nat) (fun j => [(1, .sl 10 (l.map encMk) .no), (2, .int sec), (3, .sl 1 (ex.map eI) .no), (4, .int id), (5, .ptr 0 0), (11, .b true), (12, .sl 3 (gs.map clE) .no), (14, .sl 10 (M.map encMk) .no), (15, .int fx.length), (17, .int k), (18, .b ((gs.take j).any fun g => hasI (g.map fun b => b.note.id) m.note)), (97, .sl 3 (gs.map clE) .no), (98, .int gs.length), (99, .int j)]) (fun _ => [.var (encS s)])
          (fun j => j ≤ gs.length) (fun j => gs.length - j) 1 (fun _ => rfl) 0 (nZl _) ⟨rfl, rfl, rfl, rfl, rfl, rfl, rfl, rfl, rfl, rfl, rfl, rfl, rfl, rfl, tI⟩ rfl (fun _ _ => rfl) (fun _ _ => rfl) ?_
         intro j hj
         by_cases hjl : j < gs.length
         · obtain ⟨g, hgg⟩ : ∃ g, gs.getD j default = g := ⟨_, rfl⟩
           have hgl := g2 g (by rw [← hgg]; exact getD_mem hjl)
           have h1 := has20_spec (g.map fun b => b.note.id) (by rw [lLm]; omega) m.note
           rw [zC6] at h1
           have hst := take_anyS hjl fun g : List Bow => hasI (g.map fun b => b.note.id) m.note
           rw [hgg] at hst
           generalize hasI (g.map fun b => b.note.id) m.note = x at *
           generalize ((gs.take j).any fun g => hasI (g.map fun b => b.note.id) m.note) = y at *
           repeat' (first | refine aoQ rfl rfl rfl (fun hg => by first | exact iX encMk M ((k : Nat) : Int) hm (hb := by omega) | exact iX clE gs ((j : Nat) : Int) hgg (hb := by omega) | exact std0 | exact pcW (h1) rfl rfl nd rfl nds | exact std1) (by exact rfl) ?_ | refine sqW ?_ | refine rgK (fun K' hK => ?_) | (refine aoN (hK _ _ ?_); clear hK K') | refine aoE (bxW rfl rfl rfl rfl rfl tI rfl rfl ?_) | refine aoE (stW tabOk rfl rfl rfl tI rfl rfl tI rfl rfl rfl rfl rfl rfl rfl ?_) | refine aoE (alW tabOk rfl rfl rfl rfl rfl rfl ?_) | refine cdN rfl tI (fun hc => ?_) (fun hc => ?_) | refine blK ?_ | refine exW ?_ | refine skW ?_ | refine rtW ?_ | refine dK2 (by decide +kernel) (by kernel_rfl) (by decide +kernel) rfl (fun K' hK => ?_) | refine dL2 (by kernel_rfl) (by decide +kernel) rfl (fun K' hK => ?_) | (refine aqN (hK _ ?_); clear hK K') | refine aqN ?_ | refine aqQ rfl rfl (fun hg => by first | exact iX encMk M ((k : Nat) : Int) hm (hb := by omega) | exact iX clE gs ((j : Nat) : Int) hgg (hb := by omega) | exact std0 | exact pcW (h1) rfl rfl nd rfl nds | exact std1) (by exact rfl) ?_)
           all_goals (first | exact dd | skip)
           exact ⟨j + 1, hjl, by show gs.length - (j + 1) < gs.length - j; omega, ⟨rfl, rfl, rfl, rfl, rfl, rfl, rfl, rfl, rfl, rfl, (by rw [hst]; rfl), rfl, rfl, rfl, tI⟩, rfl⟩
         · obtain rfl : j = gs.length := by omega
           rw [zAr, hall]
           repeat' (first | refine aoQ rfl rfl rfl (fun hg => by first | exact iX encMk M ((k : Nat) : Int) hm (hb := by omega) | exact std0 | exact pcW (v1) rfl rfl nd rfl nds | exact std1) (by exact rfl) ?_ | refine sqW ?_ | refine rgK (fun K' hK => ?_) | (refine aoN (hK _ _ ?_); clear hK K') | refine aoE (bxW rfl rfl rfl rfl rfl tI rfl rfl ?_) | refine aoE (stW tabOk rfl rfl rfl tI rfl rfl tI rfl rfl rfl rfl rfl rfl rfl ?_) | refine aoE (alW tabOk rfl rfl rfl rfl rfl rfl ?_) | refine cdN rfl tI (fun hc => ?_) (fun hc => ?_) | refine blK ?_ | refine exW ?_ | refine skW ?_ | refine rtW ?_ | refine dK2 (by decide +kernel) (by kernel_rfl) (by decide +kernel) rfl (fun K' hK => ?_) | refine dL2 (by kernel_rfl) (by decide +kernel) rfl (fun K' hK => ?_) | (refine aqN (hK _ ?_); clear hK K') | refine aqN ?_ | refine aqQ rfl rfl (fun hg => by first | exact iX encMk M ((k : Nat) : Int) hm (hb := by omega) | exact std0 | exact pcW (v1) rfl rfl nd rfl nds | exact std1) (by exact rfl) ?_)
           all_goals (first | exact dd | skip)
           refine ⟨k + 1, ⟨by omega, hlt⟩, by show M.length - (k + 1) < M.length - k; omega, ⟨rfl, rfl, rfl, rfl, rfl, ?_, rfl, rfl, rfl, rfl, tI⟩, rfl⟩
           have e : (m.id == id + ((k : Nat) : Int) - ((l.length : Nat) : Int)) = true := by rw [n1]; simp
           show AV.b _ = AV.b true
           simp only [e, zBm, zBl, Bool.and_self]
       · obtain rfl : k = M.length := by omega
         have e : ((((fx.length : Nat) : Int) == 0) == (((gs.length : Nat) : Int) == 0)) = true := by
          cases fx with
          | nil => rw [hfn.1 rfl]; rfl
          | cons a r =>
            cases gs with
            | nil => exact absurd (hfn.2 rfl) (by simp)
            | cons b q =>
              have h1 : (((a :: r).length : Nat) : Int) ≠ 0 := by simp only [zA5]; omega
              have h2 : (((b :: q).length : Nat) : Int) ≠ 0 := by simp only [zA5]; omega
              rw [beq_eq_false_iff_ne.2 h1, beq_eq_false_iff_ne.2 h2]; rfl
         repeat' (first | refine aoQ rfl rfl rfl (fun hg => by first | exact std0 | exact pcW (c4) rfl rfl nd rfl nds | exact std1) (by exact rfl) ?_ | refine sqW ?_ | refine rgK (fun K' hK => ?_) | (refine aoN (hK _ _ ?_); clear hK K') | refine aoE (bxW rfl rfl rfl rfl rfl tI rfl rfl ?_) | refine aoE (stW tabOk rfl rfl rfl tI rfl rfl tI rfl rfl rfl rfl rfl rfl rfl ?_) | refine aoE (alW tabOk rfl rfl rfl rfl rfl rfl ?_) | refine cdN rfl tI (fun hc => ?_) (fun hc => ?_) | refine blK ?_ | refine exW ?_ | refine skW ?_ | refine rtW ?_ | refine dK2 (by decide +kernel) (by kernel_rfl) (by decide +kernel) rfl (fun K' hK => ?_) | refine dL2 (by kernel_rfl) (by decide +kernel) rfl (fun K' hK => ?_) | (refine aqN (hK _ ?_); clear hK K') | refine aqN ?_ | refine aqQ rfl rfl (fun hg => by first | exact std0 | exact pcW (c4) rfl rfl nd rfl nds | exact std1) (by exact rfl) ?_)
         all_goals (first | exact dd | skip)
         refine ⟨.inr rfl, Ent.b ?_⟩
         simp only [e, zBm, zBl, Bool.and_self]
         try rfl
end Go.Proofs.YtficfljjnbnhbaaGreatDoor.Bw
