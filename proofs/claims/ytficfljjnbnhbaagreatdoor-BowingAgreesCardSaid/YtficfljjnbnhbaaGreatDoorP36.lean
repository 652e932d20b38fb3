/- The law BowingAgrees by content. No statement is proved here. -/
import Derived.Test.YtficfljjnbnhbaaGreatDoorP32
set_option linter.unusedVariables false
set_option linter.unusedSimpArgs false
namespace Go.Proofs.YtficfljjnbnhbaaGreatDoor.Bw
open Go.Ab Go.Sort Mk
attribute [local irreducible] AWP AOps EStep AQ PStep PRun PCall TCall VCall DStep TDies AWD DCall
theorem val_seen {s : Score} {l : List Jo.Mark} (hok : scoreOk s = true) (hm : marksOk l = true) {p : Part} {r : Jo.Rdr} {n : Note} (hn : n ∈ playedL s.notes p) :
 val20 (shownL (shownF s l p r) (playedL s.notes p)) n.id = valB s.version p.section_ l r n.id := by
 have hnd := marksOk_nodup hm
 have hf : ∀ n k m, shownF s l p r n k = some m → m.note = n ∧ m.kind = k := fun n k m h => by
  obtain ⟨_, h2, _⟩ := bestM_some hnd h
  unfold okFor at h2
  simp only [zAm, zAh, bne_eq_false_iff_eq, zAp] at h2
  exact ⟨h2.1.1.2, h2.1.2⟩
 have hkn := shown_nodup_key hf (playedL s.notes p) (played_nodup (scoreOk_nodup hok) p)
 obtain ⟨x, hx⟩ : ∃ x, shownL (shownF s l p r) (playedL s.notes p) = x := ⟨_, rfl⟩
 rw [hx] at hkn ⊢
 unfold val20 valB
 cases hb : bestM (okFor s.version n.id 1 p.section_ r) l with
 | none =>
   cases hfd : x.find? (fun m => m.kind == 1 && m.note == n.id) with
   | none => rfl
   | some m =>
     exfalso
     have h1 := zBz hfd
     have h2 := zDl hfd
     simp only [zA0, beq_iff_eq] at h2
     rw [← hx] at h1
     obtain ⟨n', _, k, _, h3⟩ := mem_shownL.1 h1
     obtain ⟨e1, e2⟩ := hf _ _ _ h3
     have : shownF s l p r n.id 1 = some m := by rw [← h2.2, e1, ← h2.1, e2]; exact h3
     have h4 : shownF s l p r n.id 1 = none := hb
     rw [h4] at this; cases this
 | some m =>
   have h3 : shownF s l p r n.id 1 = some m := hb
   obtain ⟨e1, e2⟩ := hf _ _ _ h3
   have hmx : m ∈ x := by rw [← hx]; exact mem_shownL.2 ⟨n, hn, 1, by decide, h3⟩
   cases hfd : x.find? (fun m => m.kind == 1 && m.note == n.id) with
   | none =>
     have := List.find?_eq_none.1 hfd m hmx
     simp [e1, e2] at this
   | some m' =>
     have h1 := zBz hfd
     have h2 := zDl hfd
     simp only [zA0, beq_iff_eq] at h2
     have he : m' = m := by
      obtain ⟨i, hi, ei⟩ := zAq.1 h1
      obtain ⟨j, hj, ej⟩ := zAq.1 hmx
      have hij := nodup_idx hkn (i := i) (j := j) (by rw [lLm]; exact hi) (by rw [lLm]; exact hj) (by
       rw [zCo, zCo, ei, ej]
       show (m'.note, m'.kind) = (m.note, m.kind)
       rw [h2.1, h2.2, e1, e2])
      subst hij
      rw [← ei, ← ej]
     rw [he]
theorem bowN_val {s : Score} {l : List Jo.Mark} (hok : scoreOk s = true) (hm : marksOk l = true) {p : Part} {sec : Int} (hs : p.section_ = sec) {ex : List Int} {r : Jo.Rdr} {n : Note} (hn : n ∈ playedL s.notes p) {v : Int} (hv : val20 (shownL (shownF s l p r) (playedL s.notes p)) n.id = v) :
 bowN s.version sec l ex r n = if (decide (v > 0) && !hasI ex n.id) = true then some ⟨r, n, v⟩ else none := by
 rw [val_seen hok hm hn, hs] at hv
 unfold bowN
 rw [hv]
 have h2 : hasI ex n.id = decide (n.id ∈ ex) := by rw [zAs, hasI_iff, decide_eq_true_iff]
 rw [h2]
 by_cases h1 : 0 < v
 · by_cases h3 : n.id ∈ ex
   · rw [if_neg (fun h => h.2 h3), if_neg]; simp [h3]
   · rw [if_pos ⟨h1, h3⟩, if_pos]; simp [h1, h3]
 · rw [if_neg (fun h => h1 h.1), if_neg]; simp [h1]
def agrP (bs : List Bow) (i k : Nat) : Bool := !alikeB (bs.getD i default).note (bs.getD k default).note || (bs.getD i default).val == (bs.getD k default).val
def agrR (bs : List Bow) (i : Nat) : Nat → Bool
 | 0 => true
 | k + 1 => agrR bs i k && agrP bs i k
def agrL (bs : List Bow) : Nat → Bool
 | 0 => true
 | i + 1 => agrL bs i && agrR bs i i
theorem agrR_iff (bs : List Bow) (i : Nat) : ∀ k, agrR bs i k = true ↔ ∀ j, j < k → agrP bs i j = true
 | 0 => ⟨fun _ j h => by omega, fun _ => rfl⟩
 | k + 1 => by
   show (agrR bs i k && agrP bs i k) = true ↔ _
   rw [zA0, agrR_iff bs i k]
   constructor
   · rintro ⟨h1, h2⟩ j hj
     rcases nLg j k with g | g
     · exact h1 j g
     · obtain rfl : j = k := by omega
       exact h2
   · exact fun h => ⟨fun j hj => h j (by omega), h k (by omega)⟩
theorem agrL_iff (bs : List Bow) : ∀ i, agrL bs i = true ↔ ∀ a b, b < a → a < i → agrP bs a b = true
 | 0 => ⟨fun _ a b _ h => by omega, fun _ => rfl⟩
 | i + 1 => by
   show (agrL bs i && agrR bs i i) = true ↔ _
   rw [zA0, agrL_iff bs i, agrR_iff]
   constructor
   · rintro ⟨h1, h2⟩ a b hb ha
     rcases nLg a i with g | g
     · exact h1 a b hb g
     · obtain rfl : a = i := by omega
       exact h2 b hb
   · exact fun h => ⟨fun a b hb ha => h a b hb (by omega), fun j hj => h i j hj (by omega)⟩
theorem alikeB_symm (a b : Note) : alikeB a b = alikeB b a := by
 unfold alikeB
 rw [zAs]
 simp only [zA0, beq_iff_eq]
 constructor
 · rintro ⟨⟨h1, h2⟩, h3⟩; exact ⟨⟨h1.symm, h2.symm⟩, h3.symm⟩
 · rintro ⟨⟨h1, h2⟩, h3⟩; exact ⟨⟨h1.symm, h2.symm⟩, h3.symm⟩
theorem agr_clash {s : Score} (hok : scoreOk s = true) (l : List Jo.Mark) (sec : Int) (ex : List Int) : agrL (bowsL s l sec ex) (bowsL s l sec ex).length = (((clashes s l sec ex).length : Int) == 0) := by
 have hc := clashes_nil (s := s) (l := l) (sec := sec) (ex := ex) hok
 have e : (((clashes s l sec ex).length : Int) == 0) = true ↔ clashes s l sec ex = [] := by
  rw [beq_iff_eq]
  constructor
  · intro h; exact zB0 (by omega)
  · intro h; rw [h]; rfl
 rw [zAs, e, hc, agrL_iff]
 generalize bowsL s l sec ex = bs
 constructor
 · intro h a ha b hb hab
   obtain ⟨i, hi, rfl⟩ := zAq.1 ha
   obtain ⟨j, hj, rfl⟩ := zAq.1 hb
   have key : ∀ i j (hi : i < bs.length) (hj : j < bs.length), j < i → alikeB bs[i].note bs[j].note = true → bs[i].val = bs[j].val := fun i j hi hj hij ha => by
    have := h i j hij hi
    unfold agrP at this
    rw [getD_lt hi, getD_lt hj, ha] at this
    simpa using this
   rcases Nat.lt_trichotomy j i with g | g | g
   · exact key i j hi hj g hab
   · subst g; rfl
   · exact (key j i hj hi g (by rw [alikeB_symm]; exact hab)).symm
 · intro h a b hba ha
   unfold agrP
   rw [getD_lt ha, getD_lt (show b < bs.length by omega)]
   cases hal : alikeB bs[a].note bs[b].note with
   | false => rfl
   | true =>
     have := h bs[a] (lGm ha) bs[b] (lGm (by omega)) hal
     simp [this]
def eNt (b : Bow) : List AV := encN b.note
def eVl (b : Bow) : List AV := eI b.val
def AS (s : Score) (A : List Bow) : Store := [.var (encS s), .own 12 (A.map eNt).length, .own 1 (A.map eVl).length]
set_option maxHeartbeats 64000000 in
set_option maxRecDepth 20000 in
theorem agrees_law (s : Score) (hsz : s.Sized) (l : List Jo.Mark) (hl : l.length ≤ 9223372036854775807) (ht : TextsIn l) (sec : Int) (ex : List Int) (hex : ex.length ≤ 9223372036854775807) :
 PCall Tryz.prog 4 [.agg (encS s), .sl 10 (l.map encMk) .no, .int sec, .sl 1 (ex.map eI) .no] (.b true) := by
 have hh := head20
 have u1 := usable20_spec s hsz l hl ht sec ex hex
 rw [show ((few20 s l && decide ((ex.length : Int) ≤ 60)) && formB s l sec ex) = use20 s l sec ex from rfl] at u1
 cases hu : use20 s l sec ex with
 | false =>
   rw [hu] at u1
   refine PCall.body Tryz.func4 rfl rfl Tryz.ntmps4 rfl rfl ?_
   repeat' (first | refine aoQ rfl rfl rfl (fun hg => by first | exact std0 | exact pcW (hh) rfl rfl nd rfl nds | exact pcW (u1) rfl rfl nd rfl nds | exact std1) (by exact rfl) ?_ | refine sqW ?_ | refine rgK (fun K' hK => ?_) | (refine aoN (hK _ _ ?_); clear hK K') | refine aoE (bxW rfl rfl rfl rfl rfl tI rfl rfl ?_) | refine aoE (stW tabOk rfl rfl rfl tI rfl rfl tI rfl rfl rfl rfl rfl rfl rfl ?_) | refine aoE (alW tabOk rfl rfl rfl rfl rfl rfl ?_) | refine cdN rfl tI (fun hc => ?_) (fun hc => ?_) | refine blK ?_ | refine exW ?_ | refine skW ?_ | refine rtW ?_ | refine dK2 (by decide +kernel) (by kernel_rfl) (by decide +kernel) rfl (fun K' hK => ?_) | refine dL2 (by kernel_rfl) (by decide +kernel) rfl (fun K' hK => ?_) | (refine aqN (hK _ ?_); clear hK K') | refine aqN ?_ | refine aqQ rfl rfl (fun hg => by first | exact std0 | exact pcW (hh) rfl rfl nd rfl nds | exact pcW (u1) rfl rfl nd rfl nds | exact std1) (by exact rfl) ?_)
   all_goals (first | exact dd | skip)
   exact ⟨.inr rfl, Ent.b rfl⟩
 | true =>
   rw [hu] at u1
   obtain ⟨w1, w2, hf⟩ := use_parts hu
   obtain ⟨b1, b2, b3, b4⟩ := few20_iff.1 w1
   have hs := few_small w1
   obtain ⟨hok, hm, hsec, f4, f5⟩ := form_parts hf
   have h20 : In20 s l sec ex := in20 w1 ht (by omega)
   have c1 := clashes_ok h20 hf
   have hag := agr_clash hok l sec ex
   have hbl := h20.bows hf
   clear hf h20
   generalize clashes s l sec ex = gs at *
   refine PCall.body Tryz.func4 rfl rfl Tryz.ntmps4 rfl rfl ?_
   repeat' (first | refine aoQ rfl rfl rfl (fun hg => by first | exact std0 | exact pcW (hh) rfl rfl nd rfl nds | exact pcW (u1) rfl rfl nd rfl nds | exact pcW (c1) rfl rfl nd rfl nds | exact std1) (by exact rfl) ?_ | refine sqW ?_ | refine rgK (fun K' hK => ?_) | (refine aoN (hK _ _ ?_); clear hK K') | refine aoE (bxW rfl rfl rfl rfl rfl tI rfl rfl ?_) | refine aoE (stW tabOk rfl rfl rfl tI rfl rfl tI rfl rfl rfl rfl rfl rfl rfl ?_) | refine aoE (alW tabOk rfl rfl rfl rfl rfl rfl ?_) | refine cdN rfl tI (fun hc => ?_) (fun hc => ?_) | refine blK ?_ | refine exW ?_ | refine skW ?_ | refine rtW ?_ | refine dK2 (by decide +kernel) (by kernel_rfl) (by decide +kernel) rfl (fun K' hK => ?_) | refine dL2 (by kernel_rfl) (by decide +kernel) rfl (fun K' hK => ?_) | (refine aqN (hK _ ?_); clear hK K') | refine aqN ?_ | refine aqQ rfl rfl (fun hg => by first | exact std0 | exact pcW (hh) rfl rfl nd rfl nds | exact pcW (u1) rfl rfl nd rfl nds | exact pcW (c1) rfl rfl nd rfl nds | exact std1) (by exact rfl) ?_)
   all_goals (first | exact dd | skip)
   clear hh u1 c1
   refine AWP.ownNil (d := 12) (sz := 12) rfl (AWP.ownNil (d := 13) (sz := 1) rfl ?_)
   refine lpD (ι := Nat) (fun i => [(1, .sl 10 (l.map encMk) .no), (2, .int sec), (3, .sl 1 (ex.map eI) .no), (4, .ptr 0 0), (9, .b true), (10, .sl 3 (gs.map clE) .no), (12, .sl 12 ((bowsOf s l sec ex (((s.parts.take i).filter fun p => p.section_ == sec).flatMap (seatsP s))).map eNt) (.own 1)), (13, .sl 1 ((bowsOf s l sec ex (((s.parts.take i).filter fun p => p.section_ == sec).flatMap (seatsP s))).map eVl) (.own 2)), (44, .sl 13 (s.parts.map encP) .no), (45, .int s.parts.length), (46, .int i)])
    (fun i => AS s (bowsOf s l sec ex (((s.parts.take i).filter fun p => p.section_ == sec).flatMap (seatsP s))))
    (fun i => i ≤ s.parts.length ∧ (bowsOf s l sec ex (((s.parts.take i).filter fun p => p.section_ == sec).flatMap (seatsP s))).length ≤ 40000 * i) (fun i => s.parts.length - i) 3 (fun _ => rfl) 0 ⟨nZl _, nZl _⟩ ⟨rfl, rfl, rfl, rfl, rfl, rfl, rfl, rfl, rfl, rfl, rfl, tI⟩ rfl (fun _ _ => rfl) (fun i _ => rfl) ?_
   rintro i ⟨hi, hA⟩
   by_cases hlt : i < s.parts.length
   · obtain ⟨p, hpp⟩ : ∃ p, s.parts.getD i default = p := ⟨_, rfl⟩
     obtain ⟨p1, p2, p3⟩ := part_seat hok hlt hpp
     have htk : s.parts.take (i + 1) = s.parts.take i ++ [p] := by rw [takeS' hlt, hpp]
     by_cases hse : p.section_ = sec
     · have hnx : bowsOf s l sec ex (((s.parts.take (i + 1)).filter fun p => p.section_ == sec).flatMap (seatsP s)) = bowsOf s l sec ex (((s.parts.take i).filter fun p => p.section_ == sec).flatMap (seatsP s)) ++ bowsOf s l sec ex (seatsP s p) := by
        rw [htk, zBa, zB3 (by simpa using hse), zC2, bowsOf_append]
        congr 1
        show bowsOf s l sec ex (List.flatMap (seatsP s) [p]) = _
        simp
       generalize bowsOf s l sec ex (((s.parts.take i).filter fun p => p.section_ == sec).flatMap (seatsP s)) = A at *
       have pl := played8_spec s p (by omega) (oct_in hok) (part_oct hok hlt hpp)
       obtain ⟨ns, hns⟩ : ∃ ns, playedL s.notes p = ns := ⟨_, rfl⟩
       have hnl : ns.length ≤ 1000 := by
        rw [← hns]; unfold playedL; rw [lLm]; exact zBb (zB2 _ _) (by omega)
       have hnm : ∀ n ∈ ns, n ∈ playedL s.notes p := fun n h => by rw [hns]; exact h
       have hsd : ∀ d, seatsD s p d = ns.map fun n => (rdrOf p d, n) := fun d => by unfold seatsD; rw [hns]
       rw [hns] at pl
       have hne : (p.section_ != sec) = false := by rw [hse]; simp
       repeat' (first | refine aoQ rfl rfl rfl (fun hg => by first | exact iX encP s.parts ((i : Nat) : Int) hpp (hb := by omega) | exact std0 | exact std1) (by exact rfl) ?_ | refine sqW ?_ | refine rgK (fun K' hK => ?_) | (refine aoN (hK _ _ ?_); clear hK K') | refine aoE (bxW rfl rfl rfl rfl rfl tI rfl rfl ?_) | refine aoE (stW tabOk rfl rfl rfl tI rfl rfl tI rfl rfl rfl rfl rfl rfl rfl ?_) | refine aoE (alW tabOk rfl rfl rfl rfl rfl rfl ?_) | refine cdN rfl tI (fun hc => ?_) (fun hc => ?_) | refine blK ?_ | refine exW ?_ | refine skW ?_ | refine rtW ?_ | refine dK2 (by decide +kernel) (by kernel_rfl) (by decide +kernel) rfl (fun K' hK => ?_) | refine dL2 (by kernel_rfl) (by decide +kernel) rfl (fun K' hK => ?_) | (refine aqN (hK _ ?_); clear hK K') | refine aqN ?_ | refine aqQ rfl rfl (fun hg => by first | exact iX encP s.parts ((i : Nat) : Int) hpp (hb := by omega) | exact std0 | exact std1) (by exact rfl) ?_)
       all_goals (first | (exfalso; omega) | (exact absurd (hne.symm.trans hc) (by decide)) | skip)
       refine lpD (ι := Nat) (fun d => [(1, .sl 10 (l.map encMk) .no), (2, .int sec), (3, .sl 1 (ex.map eI) .no), (4, .ptr 0 0), (9, .b true), (10, .sl 3 (gs.map clE) .no), (12, .sl 12 ((A ++ bowsOf s l sec ex ((List.range d).flatMap (seatsD s p))).map eNt) (.own 1)), (13, .sl 1 ((A ++ bowsOf s l sec ex ((List.range d).flatMap (seatsD s p))).map eVl) (.own 2)), (15, .ptr 3 0), (16, .int ((d : Int) + 1)), (44, .sl 13 (s.parts.map encP) .no), (45, .int s.parts.length), (46, .int i)])
        (fun d => AS s (A ++ bowsOf s l sec ex ((List.range d).flatMap (seatsD s p))) ++ [.var (encP p)])
        (fun d => d ≤ p.desks.toNat ∧ (bowsOf s l sec ex ((List.range d).flatMap (seatsD s p))).length ≤ 1000 * d) (fun d => p.desks.toNat - d) 4 (fun _ => rfl) 0 ⟨nZl _, nZl _⟩ ⟨rfl, rfl, rfl, rfl, rfl, rfl, (by simp [bowsOf]; try rfl), (by simp [bowsOf]; try rfl), rfl, rfl, rfl, rfl, rfl, tI⟩ (by simp [bowsOf]; try rfl) (fun _ _ => rfl) (fun _ _ => rfl) ?_
       rintro d ⟨hd, hD⟩
       by_cases hdl : d < p.desks.toNat
       · have hnd : bowsOf s l sec ex ((List.range (d + 1)).flatMap (seatsD s p)) = bowsOf s l sec ex ((List.range d).flatMap (seatsD s p)) ++ bowsOf s l sec ex (ns.map fun n => (rdrOf p d, n)) := by
          rw [zDo, zC2, bowsOf_append]
          congr 1
          show bowsOf s l sec ex (List.flatMap (seatsD s p) [d]) = _
          rw [← hsd]; simp
         generalize bowsOf s l sec ex ((List.range d).flatMap (seatsD s p)) = D at *
         have hrd : Jo.isRdr (rdrOf p d) = true := by
          unfold Jo.isRdr rdrOf
          rw [p1]; unfold Jo.inR; simp; omega
         have sh := shown_spec s hs (by omega) l (by omega) ht (rdrOf p d)
         rw [shownR_yes hok hm hrd (k := i) p3 hpp (by show ¬ p.desks < (d : Int) + 1; omega), hns] at sh
         have hbn := fun n (h : n ∈ ns) v hv => bowN_val (ex := ex) (r := rdrOf p d) (v := v) hok hm hse (hnm n h) hv
         rw [hns] at hbn
         have hxl := shownL_len (shownF s l p (rdrOf p d)) ns
         obtain ⟨x, hx⟩ : ∃ x, shownL (shownF s l p (rdrOf p d)) ns = x := ⟨_, rfl⟩
         rw [hx] at sh hbn hxl
         repeat' (first | refine aoQ rfl rfl rfl (fun hg => by first | exact std0 | exact pbD tabOk rfl rfl nds | exact pcW (sh) rfl rfl nd rfl nds | exact pcW (pl) rfl rfl nd rfl nds | exact std1) (by exact rfl) ?_ | refine sqW ?_ | refine rgK (fun K' hK => ?_) | (refine aoN (hK _ _ ?_); clear hK K') | refine aoE (bxW rfl rfl rfl rfl rfl tI rfl rfl ?_) | refine aoE (stW tabOk rfl rfl rfl tI rfl rfl tI rfl rfl rfl rfl rfl rfl rfl ?_) | refine aoE (alW tabOk rfl rfl rfl rfl rfl rfl ?_) | refine cdN rfl tI (fun hc => ?_) (fun hc => ?_) | refine blK ?_ | refine exW ?_ | refine skW ?_ | refine rtW ?_ | refine dK2 (by decide +kernel) (by kernel_rfl) (by decide +kernel) rfl (fun K' hK => ?_) | refine dL2 (by kernel_rfl) (by decide +kernel) rfl (fun K' hK => ?_) | (refine aqN (hK _ ?_); clear hK K') | refine aqN ?_ | refine aqQ rfl rfl (fun hg => by first | exact std0 | exact pbD tabOk rfl rfl nds | exact pcW (sh) rfl rfl nd rfl nds | exact pcW (pl) rfl rfl nd rfl nds | exact std1) (by exact rfl) ?_)
         all_goals (first | (exfalso; omega) | (exfalso; simp at hc; done) | skip)
         clear sh hx
         refine lpD (ι := Nat) (fun k => [(1, .sl 10 (l.map encMk) .no), (2, .int sec), (3, .sl 1 (ex.map eI) .no), (4, .ptr 0 0), (9, .b true), (10, .sl 3 (gs.map clE) .no), (12, .sl 12 ((A ++ D ++ bowsOf s l sec ex ((ns.take k).map fun n => (rdrOf p d, n))).map eNt) (.own 1)), (13, .sl 1 ((A ++ D ++ bowsOf s l sec ex ((ns.take k).map fun n => (rdrOf p d, n))).map eVl) (.own 2)), (15, .ptr 3 0), (16, .int ((d : Int) + 1)), (17, .sl 10 (x.map encMk) .no), (44, .sl 13 (s.parts.map encP) .no), (45, .int s.parts.length), (46, .int i), (74, .sl 12 (ns.map encN) .no), (75, .int ns.length), (76, .int k)])
          (fun k => AS s (A ++ D ++ bowsOf s l sec ex ((ns.take k).map fun n => (rdrOf p d, n))) ++ [.var (encP p)])
          (fun k => k ≤ ns.length) (fun k => ns.length - k) 4 (fun _ => rfl) 0 (nZl _) ⟨rfl, rfl, rfl, rfl, rfl, rfl, (by simp [bowsOf]; try rfl), (by simp [bowsOf]; try rfl), rfl, rfl, rfl, rfl, rfl, rfl, rfl, rfl, rfl, tI⟩ (by simp [bowsOf]; try rfl) (fun _ _ => rfl) (fun _ _ => rfl) ?_
         intro k hk
         have hlB := bowsOf_len s l sec ex ((ns.take k).map fun n => (rdrOf p d, n))
         rw [lLm, zAc] at hlB
         by_cases hkl : k < ns.length
         · obtain ⟨n, hnn⟩ : ∃ n, ns.getD k default = n := ⟨_, rfl⟩
           obtain ⟨v, hv⟩ : ∃ v, val20 x n.id = v := ⟨_, rfl⟩
           have hvs := value20_spec x (by omega) n.id
           rw [hv] at hvs
           have hhs := has20_spec ex hex n.id
           have hb := hbn n (by rw [← hnn]; exact getD_mem hkl) v hv
           have hst : bowsOf s l sec ex ((ns.take (k + 1)).map fun n => (rdrOf p d, n)) = bowsOf s l sec ex ((ns.take k).map fun n => (rdrOf p d, n)) ++ (bowN s.version sec l ex (rdrOf p d) n).toList := by
            rw [takeS' hkl, hnn, zAe, bowsOf_append]
            congr 1
            all_goals (unfold bowsOf; cases h9 : bowN s.version sec l ex (rdrOf p d) n <;> simp [h9])
           generalize bowsOf s l sec ex ((ns.take k).map fun n => (rdrOf p d, n)) = B at *
           have hAD : (A ++ D).length ≤ 40000 * i + 1000 * d := by rw [lLa]; omega
           generalize A ++ D = C at *
           repeat' (first | refine aoQ rfl rfl rfl (fun hg => by first | exact iX encN ns ((k : Nat) : Int) hnn (hb := by omega) | exact std0 | exact pcW (hvs) rfl rfl nd rfl nds | exact pcW (hhs) rfl rfl nd rfl nds | exact pbS tabOk rfl rfl nds | exact std1) (by exact rfl) ?_ | refine sqW ?_ | refine rgK (fun K' hK => ?_) | (refine aoN (hK _ _ ?_); clear hK K') | refine aoE (bxW rfl rfl rfl rfl rfl tI rfl rfl ?_) | refine aoE (stW tabOk rfl rfl rfl tI rfl rfl tI rfl rfl rfl rfl rfl rfl rfl ?_) | refine aoE (alW tabOk rfl rfl rfl rfl rfl rfl ?_) | refine aoE (apO tabOk rfl rfl rfl (by decide) (Rd.w rfl tI) rfl (Rd.w rfl tI) (.sl rfl (by first | (intro x hx; rcases zAl.1 hx with rfl; rfl) | exact one_eNt [⟨rdrOf p d, n, v⟩])) (LOk.of (tabOk.get rfl)) (LOk.of (tabOk.get rfl)) rfl rfl (by simp only [lLm, lLa, zA5, zAb, zAc, zAx]; omega) (by simp only [lLm, lLa, zA5, zAb, zAc, zAx]; omega) ?_) | refine cdN rfl tI (fun hc => ?_) (fun hc => ?_) | refine blK ?_ | refine exW ?_ | refine skW ?_ | refine rtW ?_ | refine dK2 (by decide +kernel) (by kernel_rfl) (by decide +kernel) rfl (fun K' hK => ?_) | refine dL2 (by kernel_rfl) (by decide +kernel) rfl (fun K' hK => ?_) | (refine aqN (hK _ ?_); clear hK K') | refine aqN ?_ | refine aqQ rfl rfl (fun hg => by first | exact iX encN ns ((k : Nat) : Int) hnn (hb := by omega) | exact std0 | exact pcW (hvs) rfl rfl nd rfl nds | exact pcW (hhs) rfl rfl nd rfl nds | exact pbS tabOk rfl rfl nds | exact std1) (by exact rfl) ?_)
           all_goals (first | (exfalso; omega) | skip)
           · have hb2 := hb.trans (if_pos hc)
             rw [hb2] at hst
             have e1 : (C ++ bowsOf s l sec ex ((ns.take (k + 1)).map fun n => (rdrOf p d, n))).map eNt = (C ++ B).map eNt ++ [encN n] := by rw [hst, ← zAt, zAe]; rfl
             have e2 : (C ++ bowsOf s l sec ex ((ns.take (k + 1)).map fun n => (rdrOf p d, n))).map eVl = (C ++ B).map eVl ++ [eI v] := by rw [hst, ← zAt, zAe]; rfl
             exact ⟨k + 1, hkl, by show ns.length - (k + 1) < ns.length - k; omega, ⟨rfl, rfl, rfl, rfl, rfl, rfl, (by rw [e1]; rfl), (by rw [e2]; rfl), rfl, rfl, rfl, rfl, rfl, rfl, rfl, rfl, rfl, tI⟩, (by unfold AS; rw [e1, e2]; rfl)⟩
           · have hb2 := hb.trans (if_neg (by rw [hc]; decide))
             rw [hb2] at hst
             have e1 : bowsOf s l sec ex ((ns.take (k + 1)).map fun n => (rdrOf p d, n)) = B := by rw [hst]; simp
             exact ⟨k + 1, hkl, by show ns.length - (k + 1) < ns.length - k; omega, ⟨rfl, rfl, rfl, rfl, rfl, rfl, (by rw [e1]; rfl), (by rw [e1]; rfl), rfl, rfl, rfl, rfl, rfl, rfl, rfl, rfl, rfl, tI⟩, (by rw [e1]; rfl)⟩
         · obtain rfl : k = ns.length := by omega
           rw [zAr]
           have hlB2 := bowsOf_len s l sec ex (ns.map fun n => (rdrOf p d, n))
           rw [lLm] at hlB2
           generalize bowsOf s l sec ex (ns.map fun n => (rdrOf p d, n)) = B at *
           repeat' (first | refine aoQ rfl rfl rfl (fun hg => by first | exact std0 | exact std1) (by exact rfl) ?_ | refine sqW ?_ | refine rgK (fun K' hK => ?_) | (refine aoN (hK _ _ ?_); clear hK K') | refine aoE (bxW rfl rfl rfl rfl rfl tI rfl rfl ?_) | refine aoE (stW tabOk rfl rfl rfl tI rfl rfl tI rfl rfl rfl rfl rfl rfl rfl ?_) | refine aoE (alW tabOk rfl rfl rfl rfl rfl rfl ?_) | refine cdN rfl tI (fun hc => ?_) (fun hc => ?_) | refine blK ?_ | refine exW ?_ | refine skW ?_ | refine rtW ?_ | refine dK2 (by decide +kernel) (by kernel_rfl) (by decide +kernel) rfl (fun K' hK => ?_) | refine dL2 (by kernel_rfl) (by decide +kernel) rfl (fun K' hK => ?_) | (refine aqN (hK _ ?_); clear hK K') | refine aqN ?_ | refine aqQ rfl rfl (fun hg => by first | exact std0 | exact std1) (by exact rfl) ?_)
           all_goals (first | (exfalso; omega) | skip)
           have e1 : A ++ bowsOf s l sec ex ((List.range (d + 1)).flatMap (seatsD s p)) = A ++ D ++ B := by rw [hnd, zAt]
           exact ⟨d + 1, ⟨hdl, by rw [hnd, lLa]; omega⟩, by show p.desks.toNat - (d + 1) < p.desks.toNat - d; omega, ⟨rfl, rfl, rfl, rfl, rfl, rfl, (by rw [e1]; rfl), (by rw [e1]; rfl), rfl, rfl, rfl, rfl, rfl, tI⟩, (by rw [e1]; rfl)⟩
       · obtain rfl : d = p.desks.toNat := by omega
         have hall : bowsOf s l sec ex ((List.range p.desks.toNat).flatMap (seatsD s p)) = bowsOf s l sec ex (seatsP s p) := rfl
         rw [hall] at hD ⊢
         generalize bowsOf s l sec ex (seatsP s p) = D at *
         repeat' (first | refine aoQ rfl rfl rfl (fun hg => by first | exact std0 | exact std1) (by exact rfl) ?_ | refine sqW ?_ | refine rgK (fun K' hK => ?_) | (refine aoN (hK _ _ ?_); clear hK K') | refine aoE (bxW rfl rfl rfl rfl rfl tI rfl rfl ?_) | refine aoE (stW tabOk rfl rfl rfl tI rfl rfl tI rfl rfl rfl rfl rfl rfl rfl ?_) | refine aoE (alW tabOk rfl rfl rfl rfl rfl rfl ?_) | refine cdN rfl tI (fun hc => ?_) (fun hc => ?_) | refine blK ?_ | refine exW ?_ | refine skW ?_ | refine rtW ?_ | refine dK2 (by decide +kernel) (by kernel_rfl) (by decide +kernel) rfl (fun K' hK => ?_) | refine dL2 (by kernel_rfl) (by decide +kernel) rfl (fun K' hK => ?_) | (refine aqN (hK _ ?_); clear hK K') | refine aqN ?_ | refine aqQ rfl rfl (fun hg => by first | exact std0 | exact std1) (by exact rfl) ?_)
         all_goals (first | (exfalso; omega) | skip)
         exact ⟨i + 1, ⟨hlt, by rw [hnx, lLa]; omega⟩, by show s.parts.length - (i + 1) < s.parts.length - i; omega, ⟨rfl, rfl, rfl, rfl, rfl, rfl, (by rw [hnx]; rfl), (by rw [hnx]; rfl), rfl, rfl, rfl, tI⟩, (by rw [hnx]; rfl)⟩
     · have hnx : bowsOf s l sec ex (((s.parts.take (i + 1)).filter fun p => p.section_ == sec).flatMap (seatsP s)) = bowsOf s l sec ex (((s.parts.take i).filter fun p => p.section_ == sec).flatMap (seatsP s)) := by
        rw [htk, zBa, zB8 (by simpa using hse)]; simp
       generalize bowsOf s l sec ex (((s.parts.take i).filter fun p => p.section_ == sec).flatMap (seatsP s)) = A at *
       have hne : (p.section_ != sec) = true := by simpa using hse
       repeat' (first | refine aoQ rfl rfl rfl (fun hg => by first | exact iX encP s.parts ((i : Nat) : Int) hpp (hb := by omega) | exact std0 | exact std1) (by exact rfl) ?_ | refine sqW ?_ | refine rgK (fun K' hK => ?_) | (refine aoN (hK _ _ ?_); clear hK K') | refine aoE (bxW rfl rfl rfl rfl rfl tI rfl rfl ?_) | refine aoE (stW tabOk rfl rfl rfl tI rfl rfl tI rfl rfl rfl rfl rfl rfl rfl ?_) | refine aoE (alW tabOk rfl rfl rfl rfl rfl rfl ?_) | refine cdN rfl tI (fun hc => ?_) (fun hc => ?_) | refine blK ?_ | refine exW ?_ | refine skW ?_ | refine rtW ?_ | refine dK2 (by decide +kernel) (by kernel_rfl) (by decide +kernel) rfl (fun K' hK => ?_) | refine dL2 (by kernel_rfl) (by decide +kernel) rfl (fun K' hK => ?_) | (refine aqN (hK _ ?_); clear hK K') | refine aqN ?_ | refine aqQ rfl rfl (fun hg => by first | exact iX encP s.parts ((i : Nat) : Int) hpp (hb := by omega) | exact std0 | exact std1) (by exact rfl) ?_)
       all_goals (first | (exfalso; omega) | (exact absurd (hne.symm.trans hc) (by decide)) | skip)
       exact ⟨i + 1, ⟨hlt, by rw [hnx]; omega⟩, by show s.parts.length - (i + 1) < s.parts.length - i; omega, ⟨rfl, rfl, rfl, rfl, rfl, rfl, (by rw [hnx]; rfl), (by rw [hnx]; rfl), rfl, rfl, rfl, tI⟩, (by rw [hnx]; rfl)⟩
   · obtain rfl : i = s.parts.length := by omega
     have hall : bowsOf s l sec ex (((s.parts.take s.parts.length).filter fun p => p.section_ == sec).flatMap (seatsP s)) = bowsL s l sec ex := by rw [zAr]; rfl
     rw [hall]
     generalize bowsL s l sec ex = bs at *
     clear hA hall hlt hi
     repeat' (first | refine aoQ rfl rfl rfl (fun hg => by first | exact std0 | exact std1) (by exact rfl) ?_ | refine sqW ?_ | refine rgK (fun K' hK => ?_) | (refine aoN (hK _ _ ?_); clear hK K') | refine aoE (bxW rfl rfl rfl rfl rfl tI rfl rfl ?_) | refine aoE (stW tabOk rfl rfl rfl tI rfl rfl tI rfl rfl rfl rfl rfl rfl rfl ?_) | refine aoE (alW tabOk rfl rfl rfl rfl rfl rfl ?_) | refine cdN rfl tI (fun hc => ?_) (fun hc => ?_) | refine blK ?_ | refine exW ?_ | refine skW ?_ | refine rtW ?_ | refine dK2 (by decide +kernel) (by kernel_rfl) (by decide +kernel) rfl (fun K' hK => ?_) | refine dL2 (by kernel_rfl) (by decide +kernel) rfl (fun K' hK => ?_) | (refine aqN (hK _ ?_); clear hK K') | refine aqN ?_ | refine aqQ rfl rfl (fun hg => by first | exact std0 | exact std1) (by exact rfl) ?_)
     all_goals (first | (exfalso; omega) | skip)
     refine lpD (ι := Nat) (fun i => [(9, .b true), (10, .sl 3 (gs.map clE) .no), (12, .sl 12 (bs.map eNt) (.own 1)), (13, .sl 1 (bs.map eVl) (.own 2)), (22, .b (agrL bs i)), (104, .int bs.length), (105, .int i)]) (fun _ => AS s bs)
      (fun i => i ≤ bs.length) (fun i => bs.length - i) 3 (fun _ => rfl) 0 (nZl _) ⟨rfl, rfl, rfl, rfl, rfl, rfl, rfl, tI⟩ rfl (fun _ _ => rfl) (fun _ _ => rfl) ?_
     intro i hi
     by_cases hlt : i < bs.length
     · repeat' (first | refine aoQ rfl rfl rfl (fun hg => by first | exact std0 | exact std1) (by exact rfl) ?_ | refine sqW ?_ | refine rgK (fun K' hK => ?_) | (refine aoN (hK _ _ ?_); clear hK K') | refine aoE (bxW rfl rfl rfl rfl rfl tI rfl rfl ?_) | refine aoE (stW tabOk rfl rfl rfl tI rfl rfl tI rfl rfl rfl rfl rfl rfl rfl ?_) | refine aoE (alW tabOk rfl rfl rfl rfl rfl rfl ?_) | refine cdN rfl tI (fun hc => ?_) (fun hc => ?_) | refine blK ?_ | refine exW ?_ | refine skW ?_ | refine rtW ?_ | refine dK2 (by decide +kernel) (by kernel_rfl) (by decide +kernel) rfl (fun K' hK => ?_) | refine dL2 (by kernel_rfl) (by decide +kernel) rfl (fun K' hK => ?_) | (refine aqN (hK _ ?_); clear hK K') | refine aqN ?_ | refine aqQ rfl rfl (fun hg => by first | exact std0 | exact std1) (by exact rfl) ?_)
       all_goals (first | (exfalso; omega) | skip)
       refine lpD (ι := Nat) (fun k => [(9, .b true), (10, .sl 3 (gs.map clE) .no), (12, .sl 12 (bs.map eNt) (.own 1)), (13, .sl 1 (bs.map eVl) (.own 2)), (22, .b (agrL bs i && agrR bs i k)), (23, .int i), (104, .int bs.length), (105, .int i), (108, .int i), (109, .int k)]) (fun _ => AS s bs)
        (fun k => k ≤ i) (fun k => i - k) 3 (fun _ => rfl) 0 (nZl _) ⟨rfl, rfl, rfl, rfl, (by show AV.b (agrL bs i) = AV.b (agrL bs i && true); rw [zBm]), rfl, rfl, rfl, rfl, rfl, tI⟩ rfl (fun _ _ => rfl) (fun _ _ => rfl) ?_
       intro k hk
       by_cases hkl : k < i
       · obtain ⟨a, ha⟩ : ∃ a, bs.getD i default = a := ⟨_, rfl⟩
         obtain ⟨b, hb⟩ : ∃ b, bs.getD k default = b := ⟨_, rfl⟩
         have h1 := ralike_spec a.note b.note
         have hst : (agrL bs i && agrR bs i (k + 1)) = ((agrL bs i && agrR bs i k) && (!alikeB a.note b.note || a.val == b.val)) := by
          show (agrL bs i && (agrR bs i k && agrP bs i k)) = _
          rw [Bool.and_assoc]; unfold agrP; rw [ha, hb]
         generalize (agrL bs i && agrR bs i k) = y at *
         repeat' (first | refine aoQ rfl rfl rfl (fun hg => by first | exact iX eVl bs ((k : Nat) : Int) hb (hb := by omega) | exact iX eVl bs ((i : Nat) : Int) ha (hb := by omega) | exact iX eNt bs ((k : Nat) : Int) hb (hb := by omega) | exact iX eNt bs ((i : Nat) : Int) ha (hb := by omega) | exact std0 | exact pcW (h1) rfl rfl nd rfl nds | exact std1) (by exact rfl) ?_ | refine sqW ?_ | refine rgK (fun K' hK => ?_) | (refine aoN (hK _ _ ?_); clear hK K') | refine aoE (bxW rfl rfl rfl rfl rfl tI rfl rfl ?_) | refine aoE (stW tabOk rfl rfl rfl tI rfl rfl tI rfl rfl rfl rfl rfl rfl rfl ?_) | refine aoE (alW tabOk rfl rfl rfl rfl rfl rfl ?_) | refine cdN rfl tI (fun hc => ?_) (fun hc => ?_) | refine blK ?_ | refine exW ?_ | refine skW ?_ | refine rtW ?_ | refine dK2 (by decide +kernel) (by kernel_rfl) (by decide +kernel) rfl (fun K' hK => ?_) | refine dL2 (by kernel_rfl) (by decide +kernel) rfl (fun K' hK => ?_) | (refine aqN (hK _ ?_); clear hK K') | refine aqN ?_ | refine aqQ rfl rfl (fun hg => by first | exact iX eVl bs ((k : Nat) : Int) hb (hb := by omega) | exact iX eVl bs ((i : Nat) : Int) ha (hb := by omega) | exact iX eNt bs ((k : Nat) : Int) hb (hb := by omega) | exact iX eNt bs ((i : Nat) : Int) ha (hb := by omega) | exact std0 | exact pcW (h1) rfl rfl nd rfl nds | exact std1) (by exact rfl) ?_)
         all_goals (first | (exfalso; omega) | skip)
         exact ⟨k + 1, hkl, by show i - (k + 1) < i - k; omega, ⟨rfl, rfl, rfl, rfl, (by rw [hst]; rfl), rfl, rfl, rfl, rfl, rfl, tI⟩, rfl⟩
       · obtain rfl : k = i := by omega
         repeat' (first | refine aoQ rfl rfl rfl (fun hg => by first | exact std0 | exact std1) (by exact rfl) ?_ | refine sqW ?_ | refine rgK (fun K' hK => ?_) | (refine aoN (hK _ _ ?_); clear hK K') | refine aoE (bxW rfl rfl rfl rfl rfl tI rfl rfl ?_) | refine aoE (stW tabOk rfl rfl rfl tI rfl rfl tI rfl rfl rfl rfl rfl rfl rfl ?_) | refine aoE (alW tabOk rfl rfl rfl rfl rfl rfl ?_) | refine cdN rfl tI (fun hc => ?_) (fun hc => ?_) | refine blK ?_ | refine exW ?_ | refine skW ?_ | refine rtW ?_ | refine dK2 (by decide +kernel) (by kernel_rfl) (by decide +kernel) rfl (fun K' hK => ?_) | refine dL2 (by kernel_rfl) (by decide +kernel) rfl (fun K' hK => ?_) | (refine aqN (hK _ ?_); clear hK K') | refine aqN ?_ | refine aqQ rfl rfl (fun hg => by first | exact std0 | exact std1) (by exact rfl) ?_)
         all_goals (first | (exfalso; omega) | skip)
         exact ⟨k + 1, hlt, by show bs.length - (k + 1) < bs.length - k; omega, ⟨rfl, rfl, rfl, rfl, rfl, rfl, rfl, tI⟩, rfl⟩
     · obtain rfl : i = bs.length := by omega
       rw [hag]
       repeat' (first | refine aoQ rfl rfl rfl (fun hg => by first | exact std0 | exact std1) (by exact rfl) ?_ | refine sqW ?_ | refine rgK (fun K' hK => ?_) | (refine aoN (hK _ _ ?_); clear hK K') | refine aoE (bxW rfl rfl rfl rfl rfl tI rfl rfl ?_) | refine aoE (stW tabOk rfl rfl rfl tI rfl rfl tI rfl rfl rfl rfl rfl rfl rfl ?_) | refine aoE (alW tabOk rfl rfl rfl rfl rfl rfl ?_) | refine cdN rfl tI (fun hc => ?_) (fun hc => ?_) | refine blK ?_ | refine exW ?_ | refine skW ?_ | refine rtW ?_ | refine dK2 (by decide +kernel) (by kernel_rfl) (by decide +kernel) rfl (fun K' hK => ?_) | refine dL2 (by kernel_rfl) (by decide +kernel) rfl (fun K' hK => ?_) | (refine aqN (hK _ ?_); clear hK K') | refine aqN ?_ | refine aqQ rfl rfl (fun hg => by first | exact std0 | exact std1) (by exact rfl) ?_)
       all_goals (first | (exfalso; omega) | skip)
       refine ⟨.inr rfl, Ent.b ?_⟩
       simp only [beq_self_eq_true, zBm, zBl]
end Go.Proofs.YtficfljjnbnhbaaGreatDoor.Bw
