/- Marks: plain laws of the best one, and of the marks that a reader sees; contracts of usable and reads.  The law MarksPrivate by content. Bowings in plain words: which there are, where they disagree, what restores them.  Bowings in plain words: the marks that restore, the marks that play no part.  Bowings in plain words: kinds of notes that are alike, in order. No statement is proved here. -/
import Derived.Test.YtficfljjnbnhbaaGreatDoorP16
set_option linter.unusedVariables false
set_option linter.unusedSimpArgs false
namespace Go.Proofs.YtficfljjnbnhbaaGreatDoor.Mk
open Go.Ab Go.Jo
theorem cnt_asym (a b : Jo.Mark) : (cnt a b && cnt b a) = false := by
 cases h1 : cnt a b with
 | false => rfl
 | true =>
   cases h2 : cnt b a with
   | false => rfl
   | true =>
     exfalso
     unfold cnt at h1 h2
     by_cases h : a.layer = b.layer
     · rw [if_pos h] at h1
       rw [if_pos h.symm] at h2
       simp at h1 h2; omega
     · rw [if_neg h] at h1
       rw [if_neg (Ne.symm h)] at h2
       simp at h1 h2; omega
theorem cnt_total {a b : Jo.Mark} (h : a.id ≠ b.id) : cnt a b = !cnt b a := by
 unfold cnt
 by_cases h2 : a.layer = b.layer
 · rw [if_pos h2, if_pos h2.symm, zAs]; simp; omega
 · rw [if_neg h2, if_neg (Ne.symm h2), zAs]; simp; omega
theorem cnt_trans {a b c : Jo.Mark} (h1 : cnt a b = true) (h2 : cnt b c = true) : cnt a c = true := by
 unfold cnt at *
 split at h1 <;> split at h2 <;> split <;> simp only [dEt] at * <;> omega
theorem bestM_take_good (q : Jo.Mark → Bool) {l : List Jo.Mark} (hn : (l.map (·.id)).Nodup) : ∀ k, k ≤ l.length →
 (∀ b, bestM q (l.take k) = some b → b ∈ l.take k ∧ q b = true ∧ ∀ m ∈ l.take k, q m = true → m = b ∨ cnt b m = true) ∧ (bestM q (l.take k) = none → ∀ m ∈ l.take k, q m = false)
 | 0, _ => ⟨fun b h => by simp [bestM] at h, fun _ m h => by simp at h⟩
 | k + 1, hk => by
   obtain ⟨ih1, ih2⟩ := bestM_take_good q hn k (by omega)
   have hkl : k < l.length := by omega
   have hns := (nodup_succ (fun b : Jo.Mark => b.id) l k hkl).1 (by
    rw [← zCu (k + 1) l, zAe] at hn
    exact (zBx.1 hn).1)
   rw [take_snoc hkl, bestM_snoc]
   generalize hm : l.getD k default = m at *
   have hid : ∀ w ∈ l.take k, w.id ≠ m.id := fun w hw e => hns.2 (zAi.2 ⟨w, hw, e⟩)
   by_cases hq : q m = true
   · rw [if_pos hq]
     cases hb : bestM q (l.take k) with
     | none =>
       have h2 := ih2 hb
       refine ⟨fun b h => ?_, fun h => by simp [better] at h⟩
       simp only [better, Option.some.injEq] at h
       subst h
       refine ⟨by simp, hq, fun x hx hqx => ?_⟩
       rcases zB5.1 hx with h | h
       · have := h2 x h; rw [hqx] at this; cases this
       · exact .inl (by simpa using h)
     | some w =>
       obtain ⟨w1, w2, w3⟩ := ih1 w hb
       refine ⟨fun b h => ?_, fun h => by simp only [better] at h; split at h <;> cases h⟩
       simp only [better] at h
       by_cases hc : cnt m w = true
       · rw [if_pos hc] at h
         simp only [Option.some.injEq] at h
         subst h
         refine ⟨by simp, hq, fun x hx hqx => ?_⟩
         rcases zB5.1 hx with h | h
         · rcases w3 x h hqx with rfl | h3
           · exact .inr hc
           · exact .inr (cnt_trans hc h3)
         · exact .inl (by simpa using h)
       · rw [if_neg hc] at h
         simp only [Option.some.injEq] at h
         subst h
         refine ⟨zCd _ w1, w2, fun x hx hqx => ?_⟩
         rcases zB5.1 hx with h | h
         · exact w3 x h hqx
         · have hx : x = m := by simpa using h
           subst hx
           refine .inr ?_
           rw [cnt_total (hid w w1)]
           simpa using hc
   · rw [if_neg hq]
     have hq2 : q m = false := by simpa using hq
     refine ⟨fun b h => ?_, fun h x hx => ?_⟩
     · obtain ⟨w1, w2, w3⟩ := ih1 b h
       refine ⟨zCd _ w1, w2, fun x hx hqx => ?_⟩
       rcases zB5.1 hx with h | h
       · exact w3 x h hqx
       · have hx : x = m := by simpa using h
         subst hx; rw [hqx] at hq2; cases hq2
     · rcases zB5.1 hx with h2 | h2
       · exact ih2 h x h2
       · have hx : x = m := by simpa using h2
         subst hx; exact hq2
theorem bestM_some {q : Jo.Mark → Bool} {l : List Jo.Mark} (hn : (l.map (·.id)).Nodup) {b : Jo.Mark} (h : bestM q l = some b) : b ∈ l ∧ q b = true ∧ ∀ m ∈ l, q m = true → m = b ∨ cnt b m = true := by
 have := (bestM_take_good q hn l.length (nLr _)).1 b
 rw [zAr] at this
 exact this h
theorem bestM_none {q : Jo.Mark → Bool} {l : List Jo.Mark} (hn : (l.map (·.id)).Nodup) (h : bestM q l = none) : ∀ m ∈ l, q m = false := by
 have := (bestM_take_good q hn l.length (nLr _)).2
 rw [zAr] at this
 exact this h
theorem mem_shownL {f : Int → Int → Option Jo.Mark} {ns : List Note} {m : Jo.Mark} : m ∈ shownL f ns ↔ ∃ n ∈ ns, ∃ k ∈ kinds, f n.id k = some m := by
 unfold shownL
 rw [zCn]
 constructor
 · rintro ⟨n, hn, h⟩
   obtain ⟨k, hk, e⟩ := zCs.1 h
   exact ⟨n, hn, k, hk, e⟩
 · rintro ⟨n, hn, k, hk, e⟩
   exact ⟨n, hn, zCs.2 ⟨k, hk, e⟩⟩
abbrev keyM (m : Jo.Mark) : Int × Int := (m.note, m.kind)
theorem kinds_nodup_key {g : Int → Option Jo.Mark} (hg : ∀ k m, g k = some m → m.kind = k) : ∀ ks : List Int, ks.Nodup → ((ks.filterMap g).map keyM).Nodup
 | [], _ => by simp
 | k :: t, h => by
   obtain ⟨h1, h2⟩ := zCb.1 h
   have ih := kinds_nodup_key hg t h2
   rw [List.filterMap_cons]
   cases hk : g k with
   | none => exact ih
   | some m =>
     rw [zAz, zCb]
     refine ⟨fun hm => ?_, ih⟩
     obtain ⟨m', hm', e⟩ := zAi.1 hm
     obtain ⟨k', hk', e'⟩ := zCs.1 hm'
     have e1 := hg _ _ hk
     have e2 := hg _ _ e'
     have e3 : m'.kind = m.kind := congrArg Prod.snd e
     rw [e1, e2] at e3
     exact h1 (e3 ▸ hk')
theorem shown_nodup_key {f : Int → Int → Option Jo.Mark} (hf : ∀ n k m, f n k = some m → m.note = n ∧ m.kind = k) : ∀ ns : List Note, (ns.map (·.id)).Nodup → ((shownL f ns).map keyM).Nodup
 | [], _ => by simp [shownL]
 | n :: t, h => by
   rw [zAz, zCb] at h
   have ih := shown_nodup_key hf t h.2
   have e : shownL f (n :: t) = kinds.filterMap (f n.id) ++ shownL f t := by unfold shownL; rw [zD1]
   rw [e, zAe, zBx]
   refine ⟨kinds_nodup_key (fun k m h => (hf n.id k m h).2) kinds (by decide), ih, fun a ha b hb e => ?_⟩
   obtain ⟨m, hm, rfl⟩ := zAi.1 ha
   obtain ⟨k, _, e1⟩ := zCs.1 hm
   obtain ⟨m', hm', rfl⟩ := zAi.1 hb
   obtain ⟨n', hn', k', _, e2⟩ := mem_shownL.1 hm'
   have e3 : m.note = m'.note := congrArg Prod.fst e
   rw [(hf _ _ _ e1).1, (hf _ _ _ e2).1] at e3
   exact h.1 (zAi.2 ⟨n', hn', e3.symm⟩)
theorem played_ids (l : List Note) (p : Part) : (playedL l p).map (·.id) = (l.filter fun n => n.part == srcOf p).map (·.id) := by
 unfold playedL; rw [zC6]; rfl
theorem played_nodup {l : List Note} (h : (l.map (·.id)).Nodup) (p : Part) : ((playedL l p).map (·.id)).Nodup := by
 rw [played_ids]
 exact List.Sublist.nodup (List.Sublist.map _ List.filter_sublist) h
theorem shownF_some {s : Score} {l : List Jo.Mark} {p : Part} {r : Rdr} (hn : (l.map (·.id)).Nodup) {n k : Int} {m : Jo.Mark} (h : shownF s l p r n k = some m) :
 m ∈ l ∧ (m.note = n ∧ m.kind = k) ∧ m.version = s.version ∧ forM m p.section_ r = true := by
 obtain ⟨h1, h2, _⟩ := bestM_some hn h
 unfold okFor at h2
 simp only [zAm, zAh, bne_eq_false_iff_eq, zAp] at h2
 exact ⟨h1, ⟨h2.1.1.2, h2.1.2⟩, h2.1.1.1, h2.2⟩
theorem marksOk_nodup {l : List Jo.Mark} (h : marksOk l = true) : (l.map (·.id)).Nodup := by
 unfold marksOk at h
 simp only [zA0, dEt] at h
 exact h.1.2
theorem marksOk_mem {l : List Jo.Mark} (h : marksOk l = true) {m : Jo.Mark} (hm : m ∈ l) : markOk m = true := by
 unfold marksOk at h
 simp only [zA0, zA8] at h
 exact h.1.1 m hm
attribute [local irreducible] AWP AOps EStep AQ PStep PRun PCall TCall VCall DStep TDies AWD DCall
theorem shownR_yes {s : Score} {l : List Jo.Mark} {r : Rdr} (hok : scoreOk s = true) (hm : marksOk l = true) (hr : isRdr r = true) {k : Nat} {p : Part} (e : partI s r.part = k) (hP : s.parts.getD k default = p) (hd : ¬ p.desks < r.desk) :
 shownR s l r = (shownL (shownF s l p r) (playedL s.notes p), 0) := by
 unfold shownR
 rw [hok, hm, hr, if_pos (by rfl), e, if_pos (zCv k), zAj, hP, if_neg hd]
theorem playsR_yes {s : Score} {id : Int} (hok : scoreOk s = true) {k : Nat} {p : Part} (e : partI s id = k) (hP : s.parts.getD k default = p) : playsR s id = (playedL s.notes p, 0) := by
 unfold playsR
 rw [if_pos hok, show findI (fun x : Part => x.id == id) s.parts = (k : Int) from e, if_pos (zCv k), zAj, hP]
theorem scoreOk_nodup {s : Score} (h : scoreOk s = true) : (s.notes.map (·.id)).Nodup := by
 unfold scoreOk scoreBad at h
 simp only [zA0, zAm, zAh, zAp] at h
 exact notesOk_nodup h.1.1.2
end Go.Proofs.YtficfljjnbnhbaaGreatDoor.Mk
namespace Go.Proofs.YtficfljjnbnhbaaGreatDoor.Mk
open Go.Ab Go.Jo
attribute [local irreducible] AWP AOps EStep AQ PStep PRun PCall TCall VCall DStep TDies AWD DCall
theorem bestM_uniq {q : Jo.Mark → Bool} {l : List Jo.Mark} (hn : (l.map (·.id)).Nodup) {b : Jo.Mark} (hb : b ∈ l) (hq : q b = true) (hm : ∀ m ∈ l, q m = true → m = b ∨ cnt b m = true) : bestM q l = some b := by
 cases h : bestM q l with
 | none => have := bestM_none hn h b hb; rw [hq] at this; cases this
 | some w =>
   obtain ⟨w1, w2, w3⟩ := bestM_some hn h
   rcases w3 b hb hq with rfl | h1
   · rfl
   · rcases hm w w1 w2 with rfl | h2
     · rfl
     · have := cnt_asym b w
       rw [h1, h2] at this; cases this
theorem bestM_same {q : Jo.Mark → Bool} {l l' : List Jo.Mark} (hn : (l.map (·.id)).Nodup) (hn' : (l'.map (·.id)).Nodup) (h : ∀ m, q m = true → (m ∈ l ↔ m ∈ l')) : bestM q l' = bestM q l := by
 cases hb : bestM q l with
 | none =>
   cases hb' : bestM q l' with
   | none => rfl
   | some w =>
     obtain ⟨w1, w2, _⟩ := bestM_some hn' hb'
     have := bestM_none hn hb w ((h w w2).2 w1)
     rw [w2] at this; cases this
 | some b =>
   obtain ⟨b1, b2, b3⟩ := bestM_some hn hb
   exact bestM_uniq hn' ((h b b2).1 b1) b2 fun m hm hq => b3 m ((h m hq).2 hm) hq
end Go.Proofs.YtficfljjnbnhbaaGreatDoor.Mk
namespace Go.Proofs.YtficfljjnbnhbaaGreatDoor.Bw
open Go.Ab Mk
def othStep (w : Int) (out : List Int) (p : Int × Int) : List Int := if p.2 ≠ w ∧ p.1 ∉ out then out ++ [p.1] else out
def oth (ps : List (Int × Int)) (w : Int) : List Int := ps.foldl (othStep w) []
theorem oth_snoc (ps : List (Int × Int)) (p : Int × Int) (w : Int) : oth (ps ++ [p]) w = othStep w (oth ps w) p := by
 unfold oth; rw [zC7]; rfl
theorem oth_go (w : Int) : ∀ (ps : List (Int × Int)) (out : List Int), out.Nodup → (ps.foldl (othStep w) out).Nodup ∧ ∀ n, n ∈ ps.foldl (othStep w) out ↔ n ∈ out ∨ ∃ p ∈ ps, p.1 = n ∧ p.2 ≠ w
 | [], out, h => ⟨h, fun n => by simp⟩
 | p :: ps, out, h => by
   have hs : (othStep w out p).Nodup ∧ ∀ n, n ∈ othStep w out p ↔ n ∈ out ∨ (p.1 = n ∧ p.2 ≠ w) := by
    unfold othStep
    split
    · rename_i h2
      refine ⟨zBx.2 ⟨h, by simp, fun a ha b hb => ?_⟩, fun n => ?_⟩
      · rintro rfl
        rw [zAl] at hb
        subst hb
        exact h2.2 ha
      · rw [zB5, zAl]
        constructor
        · rintro (h3 | rfl)
          · exact .inl h3
          · exact .inr ⟨rfl, h2.1⟩
        · rintro (h3 | ⟨rfl, _⟩)
          · exact .inl h3
          · exact .inr rfl
    · rename_i h2
      refine ⟨h, fun n => ⟨.inl, ?_⟩⟩
      rintro (h3 | ⟨rfl, h4⟩)
      · exact h3
      · exact Decidable.byContradiction fun h5 => h2 ⟨h4, h5⟩
   obtain ⟨h1, h2⟩ := oth_go w ps _ hs.1
   refine ⟨h1, fun n => ?_⟩
   rw [zDm, h2 n, hs.2 n]
   simp only [zB7, exists_eq_or_imp]
   rw [or_assoc]
theorem oth_nodup (ps : List (Int × Int)) (w : Int) : (oth ps w).Nodup := (oth_go w ps [] zCx).1
theorem mem_oth {ps : List (Int × Int)} {w n : Int} : n ∈ oth ps w ↔ ∃ p ∈ ps, p.1 = n ∧ p.2 ≠ w := by
 have := (oth_go w ps [] zCx).2 n
 unfold oth
 rw [this]; simp
theorem oth_len (w : Int) (ps : List (Int × Int)) : (oth ps w).length ≤ ps.length := by
 have h1 := oth_nodup ps w
 have h2 : oth ps w ⊆ ps.map (·.1) := fun n hn => by
  obtain ⟨p, hp, e, _⟩ := mem_oth.1 hn
  exact zAi.2 ⟨p, hp, e⟩
 have := h1.length_le_of_subset h2
 simpa using this
def chose (ps : List (Int × Int)) : Int := if (oth ps 1).length ≤ (oth ps 2).length then 1 else 2
theorem chose_in (ps : List (Int × Int)) : chose ps = 1 ∨ chose ps = 2 := by unfold chose; split <;> simp
theorem chose_le (ps : List (Int × Int)) {w : Int} (hw : w = 1 ∨ w = 2) : (oth ps (chose ps)).length ≤ (oth ps w).length := by
 unfold chose
 split <;> rcases hw with rfl | rfl <;> omega
structure Bow where
 rdr : Jo.Rdr
 note : Note
 val : Int
deriving DecidableEq, Inhabited
def valB (v sec : Int) (l : List Jo.Mark) (r : Jo.Rdr) (n : Int) : Int := match bestM (okFor v n 1 sec r) l with
 | none => 0
 | some m => m.value
def bowN (v sec : Int) (l : List Jo.Mark) (ex : List Int) (r : Jo.Rdr) (n : Note) : Option Bow := if 0 < valB v sec l r n.id ∧ n.id ∉ ex then some ⟨r, n, valB v sec l r n.id⟩ else none
def rdrOf (p : Part) (d : Nat) : Jo.Rdr := ⟨p.id, (d : Int) + 1, 1⟩
def seatsD (s : Score) (p : Part) (d : Nat) : List (Jo.Rdr × Note) := (playedL s.notes p).map fun n => (rdrOf p d, n)
def seatsP (s : Score) (p : Part) : List (Jo.Rdr × Note) := (List.range p.desks.toNat).flatMap (seatsD s p)
def seatsL (s : Score) (sec : Int) : List (Jo.Rdr × Note) := (s.parts.filter fun p => p.section_ == sec).flatMap (seatsP s)
def bowsOf (s : Score) (l : List Jo.Mark) (sec : Int) (ex : List Int) (q : List (Jo.Rdr × Note)) : List Bow := q.filterMap fun q => bowN s.version sec l ex q.1 q.2
def bowsL (s : Score) (l : List Jo.Mark) (sec : Int) (ex : List Int) : List Bow := bowsOf s l sec ex (seatsL s sec)
theorem mem_bows {s : Score} {l : List Jo.Mark} {sec : Int} {ex : List Int} {b : Bow} : b ∈ bowsL s l sec ex ↔ (b.rdr, b.note) ∈ seatsL s sec ∧ b.val = valB s.version sec l b.rdr b.note.id ∧ 0 < b.val ∧ b.note.id ∉ ex := by
 unfold bowsL bowsOf
 rw [zCs]
 constructor
 · rintro ⟨⟨r, n⟩, hq, h⟩
   unfold bowN at h
   split at h
   · rename_i h2
     cases h
     exact ⟨hq, rfl, h2.1, h2.2⟩
   · cases h
 · rintro ⟨h1, h2, h3, h4⟩
   refine ⟨_, h1, ?_⟩
   unfold bowN
   dsimp only
   rw [← h2, if_pos ⟨h3, h4⟩]
theorem mem_seats {s : Score} {sec : Int} {r : Jo.Rdr} {n : Note} : (r, n) ∈ seatsL s sec ↔ ∃ p ∈ s.parts, p.section_ = sec ∧ n ∈ playedL s.notes p ∧ ∃ d : Nat, d < p.desks.toNat ∧ r = rdrOf p d := by
 unfold seatsL
 rw [zCn]
 constructor
 · rintro ⟨p, hp, h⟩
   obtain ⟨h1, h2⟩ := zBn.1 hp
   unfold seatsP at h
   obtain ⟨d, hd, h3⟩ := zCn.1 h
   obtain ⟨x, hx, e⟩ := zAi.1 h3
   simp only [Prod.mk.injEq] at e
   obtain ⟨rfl, rfl⟩ := e
   exact ⟨p, h1, by simpa using h2, hx, d, zBd.1 hd, rfl⟩
 · rintro ⟨p, h1, h2, h3, d, h4, rfl⟩
   refine ⟨p, zBn.2 ⟨h1, by simpa using h2⟩, zCn.2 ⟨d, zBd.2 h4, zAi.2 ⟨n, h3, rfl⟩⟩⟩
def pairB (b : Bow) : Int × Int := (b.note.id, b.val)
section
variable {κ : Type} [DecidableEq κ]
def grp (key : Note → κ) (bs : List Bow) (k : κ) : List Bow := bs.filter fun b => key b.note == k
def differs (g : List Bow) : Bool := g.any fun b => b.val != (g.headD default).val
theorem differs_iff {g : List Bow} : differs g = true ↔ ∃ a ∈ g, ∃ b ∈ g, a.val ≠ b.val := by
 unfold differs
 rw [zBw]
 constructor
 · rintro ⟨a, ha, h⟩
   cases g with
   | nil => cases ha
   | cons c g => exact ⟨a, ha, c, zAo .., by simpa using h⟩
 · rintro ⟨a, ha, b, hb, h⟩
   by_cases e : a.val = (g.headD default).val
   · exact ⟨b, hb, by simp only [bne_iff_ne, ne_eq]; intro e2; exact h (e.trans e2.symm)⟩
   · exact ⟨a, ha, by simpa using e⟩
def clashG (key : Note → κ) (bs : List Bow) (ks : List κ) : List (List Bow) := (ks.map (grp key bs)).filter differs
theorem mem_clash {key : Note → κ} {bs : List Bow} {ks : List κ} {g : List Bow} : g ∈ clashG key bs ks ↔ ∃ k ∈ ks, g = grp key bs k ∧ differs g = true := by
 unfold clashG
 rw [zBn, lMm]
 constructor
 · rintro ⟨⟨k, hk, rfl⟩, h⟩; exact ⟨k, hk, rfl, h⟩
 · rintro ⟨k, hk, rfl, h⟩; exact ⟨⟨k, hk, rfl⟩, h⟩
theorem mem_grp {key : Note → κ} {bs : List Bow} {k : κ} {b : Bow} : b ∈ grp key bs k ↔ b ∈ bs ∧ key b.note = k := by
 unfold grp; rw [zBn]; simp
theorem clash_nil {key : Note → κ} {bs : List Bow} {ks : List κ} (hks : ∀ b ∈ bs, key b.note ∈ ks) : clashG key bs ks = [] ↔ ∀ a ∈ bs, ∀ b ∈ bs, key a.note = key b.note → a.val = b.val := by
 constructor
 · intro h a ha b hb e
   apply Decidable.byContradiction
   intro hne
   have : grp key bs (key b.note) ∈ clashG key bs ks := mem_clash.2 ⟨_, hks b hb, rfl, differs_iff.2 ⟨a, mem_grp.2 ⟨ha, e⟩, b, mem_grp.2 ⟨hb, rfl⟩, hne⟩⟩
   rw [h] at this; cases this
 · intro h
   cases hc : clashG key bs ks with
   | nil => rfl
   | cons g r =>
     have : g ∈ clashG key bs ks := by rw [hc]; exact zAo ..
     obtain ⟨k, _, rfl, hd⟩ := mem_clash.1 this
     obtain ⟨a, ha, b, hb, hne⟩ := differs_iff.1 hd
     obtain ⟨h1, h2⟩ := mem_grp.1 ha
     obtain ⟨h3, h4⟩ := mem_grp.1 hb
     exact absurd (h a h1 b h3 (h2.trans h4.symm)) hne
def fixG (g : List Bow) : List (Int × Int) := (oth (g.map pairB) (chose (g.map pairB))).map fun n => (n, chose (g.map pairB))
def fixL (cs : List (List Bow)) : List (Int × Int) := cs.flatMap fixG
theorem mem_fixG {g : List Bow} {n w : Int} : (n, w) ∈ fixG g ↔ w = chose (g.map pairB) ∧ ∃ b ∈ g, b.note.id = n ∧ b.val ≠ w := by
 unfold fixG
 rw [lMm]
 constructor
 · rintro ⟨x, hx, e⟩
   simp only [Prod.mk.injEq] at e
   obtain ⟨rfl, rfl⟩ := e
   obtain ⟨p, hp, h1, h2⟩ := mem_oth.1 hx
   obtain ⟨b, hb, rfl⟩ := zAi.1 hp
   exact ⟨rfl, b, hb, h1, h2⟩
 · rintro ⟨rfl, b, hb, rfl, h⟩
   exact ⟨b.note.id, mem_oth.2 ⟨pairB b, zAi.2 ⟨b, hb, rfl⟩, rfl, h⟩, rfl⟩
theorem fixG_fst (g : List Bow) : (fixG g).map (·.1) = oth (g.map pairB) (chose (g.map pairB)) := by
 unfold fixG; rw [zC6]; exact List.map_id _
def KeyById (key : Note → κ) (bs : List Bow) : Prop := ∀ a ∈ bs, ∀ b ∈ bs, a.note.id = b.note.id → key a.note = key b.note
theorem flat_nodup {α β : Type} {f : α → List β} : ∀ {l : List α}, (∀ a ∈ l, (f a).Nodup) → l.Pairwise (fun a b => ∀ x ∈ f a, x ∉ f b) → (l.flatMap f).Nodup
 | [], _, _ => zCx
 | a :: l, h1, h2 => by
   rw [List.pairwise_cons] at h2
   rw [zD1, zBx]
   refine ⟨h1 a (zAo ..), flat_nodup (fun b hb => h1 b (zAv _ hb)) h2.2, fun x hx y hy e => ?_⟩
   subst e
   obtain ⟨b, hb, h3⟩ := zCn.1 hy
   exact h2.1 b hb x hx h3
theorem clash_pw {key : Note → κ} {bs : List Bow} {ks : List κ} (hn : ks.Nodup) (hk : KeyById key bs) : (clashG key bs ks).Pairwise fun g h => ∀ a ∈ g, ∀ b ∈ h, a.note.id ≠ b.note.id := by
 unfold clashG
 refine List.Pairwise.filter _ ?_
 rw [List.pairwise_map]
 refine hn.imp fun {x y} hxy a ha b hb e => ?_
 obtain ⟨h1, h2⟩ := mem_grp.1 ha
 obtain ⟨h3, h4⟩ := mem_grp.1 hb
 exact hxy (h2.symm.trans ((hk a h1 b h3 e).trans h4))
theorem oths_nodup {key : Note → κ} {bs : List Bow} {ks : List κ} (hn : ks.Nodup) (hk : KeyById key bs) (w : List Bow → Int) : ((clashG key bs ks).flatMap fun g => oth (g.map pairB) (w g)).Nodup := by
 refine flat_nodup (fun g _ => oth_nodup _ _) ((clash_pw hn hk).imp fun {g h} hgh x hx hy => ?_)
 obtain ⟨p, hp, h1, _⟩ := mem_oth.1 hx
 obtain ⟨a, ha, rfl⟩ := zAi.1 hp
 obtain ⟨q, hq, h2, _⟩ := mem_oth.1 hy
 obtain ⟨b, hb, rfl⟩ := zAi.1 hq
 exact hgh a ha b hb (h1.trans h2.symm)
theorem fixL_fst (cs : List (List Bow)) : (fixL cs).map (·.1) = cs.flatMap fun g => oth (g.map pairB) (chose (g.map pairB)) := by
 unfold fixL
 rw [List.map_flatMap]
 simp only [fixG_fst]
theorem fix_nodup {key : Note → κ} {bs : List Bow} {ks : List κ} (hn : ks.Nodup) (hk : KeyById key bs) : ((fixL (clashG key bs ks)).map (·.1)).Nodup := by
 rw [fixL_fst]; exact oths_nodup hn hk _
theorem mem_fixL {key : Note → κ} {bs : List Bow} {ks : List κ} {n w : Int} : (n, w) ∈ fixL (clashG key bs ks) ↔ ∃ k ∈ ks, differs (grp key bs k) = true ∧ w = chose ((grp key bs k).map pairB) ∧ ∃ b ∈ bs, key b.note = k ∧ b.note.id = n ∧ b.val ≠ w := by
 unfold fixL
 rw [zCn]
 constructor
 · rintro ⟨g, hg, h⟩
   obtain ⟨k, hk, rfl, hd⟩ := mem_clash.1 hg
   obtain ⟨h1, b, hb, h2, h3⟩ := mem_fixG.1 h
   obtain ⟨h4, h5⟩ := mem_grp.1 hb
   exact ⟨k, hk, hd, h1, b, h4, h5, h2, h3⟩
 · rintro ⟨k, hk, hd, h1, b, hb, h2, h3, h4⟩
   exact ⟨_, mem_clash.2 ⟨k, hk, rfl, hd⟩, mem_fixG.2 ⟨h1, b, mem_grp.2 ⟨hb, h2⟩, h3, h4⟩⟩
theorem restored {key : Note → κ} {bs bs' : List Bow} {ks ks' : List κ} (hks : ∀ b ∈ bs, key b.note ∈ ks) (hks' : ∀ b ∈ bs', key b.note ∈ ks') (hk : ∀ a ∈ bs, ∀ b ∈ bs', a.note.id = b.note.id → key a.note = key b.note)
 (hnew : ∀ b ∈ bs', ∀ w, (b.note.id, w) ∈ fixL (clashG key bs ks) → b.val = w) (hold : ∀ b ∈ bs', (∀ w, (b.note.id, w) ∉ fixL (clashG key bs ks)) → b ∈ bs) :
 clashG key bs' ks' = [] := by
 refine (clash_nil hks').2 fun a ha b hb e => ?_
 have one : ∀ c ∈ bs', key c.note = key a.note → differs (grp key bs (key a.note)) = true → c.val = chose ((grp key bs (key a.note)).map pairB) := fun c hc ec hd => by
  by_cases hf : ∃ w, (c.note.id, w) ∈ fixL (clashG key bs ks)
  · obtain ⟨w, hw⟩ := hf
    rw [hnew c hc w hw]
    obtain ⟨k, _, _, h1, x, hx, h2, h3, _⟩ := mem_fixL.1 hw
    rw [h1, ← h2, hk x hx c hc h3, ec]
  · have hm := hold c hc fun w hw => hf ⟨w, hw⟩
    apply Decidable.byContradiction
    intro hne
    exact hf ⟨_, mem_fixL.2 ⟨key a.note, by rw [← ec]; exact hks c hm, hd, rfl, c, hm, ec, rfl, hne⟩⟩
 cases hd : differs (grp key bs (key a.note)) with
 | true => rw [one a ha rfl hd, one b hb e.symm hd]
 | false =>
   have no : ∀ c ∈ bs', key c.note = key a.note → c ∈ bs := fun c hc ec => hold c hc fun w hw => by
    obtain ⟨k, _, h1, _, x, hx, h2, h3, _⟩ := mem_fixL.1 hw
    rw [← h2, hk x hx c hc h3, ec, hd] at h1; cases h1
   apply Decidable.byContradiction
   intro hne
   have : differs (grp key bs (key a.note)) = true := differs_iff.2 ⟨a, mem_grp.2 ⟨no a ha rfl, rfl⟩, b, mem_grp.2 ⟨no b hb e.symm, e.symm⟩, hne⟩
   rw [hd] at this; cases this
theorem flat_len {α β : Type} {f g : α → List β} : ∀ {l : List α}, (∀ a ∈ l, (f a).length ≤ (g a).length) → (l.flatMap f).length ≤ (l.flatMap g).length
 | [], _ => nLr _
 | a :: l, h => by
   rw [zD1, zD1, lLa, lLa]
   have := h a (zAo ..)
   have := flat_len (f := f) (g := g) (l := l) fun b hb => h b (zAv _ hb)
   omega
theorem least {key : Note → κ} {bs bs' : List Bow} {ks ks' : List κ} (hn : ks.Nodup) (hk : KeyById key bs) (hks' : ∀ b ∈ bs', key b.note ∈ ks') (hv : ∀ b ∈ bs', b.val = 1 ∨ b.val = 2) (h0 : clashG key bs' ks' = [])
 {L : List Int} (hst : ∀ b ∈ bs, b.note.id ∉ L → b ∈ bs') : (fixL (clashG key bs ks)).length ≤ L.length := by
 have hag := (clash_nil hks').1 h0
 have hw : ∀ g ∈ clashG key bs ks, ∃ w, (w = 1 ∨ w = 2) ∧ ∀ n ∈ oth (g.map pairB) w, n ∈ L := fun g hg => by
  obtain ⟨k, _, rfl, _⟩ := mem_clash.1 hg
  by_cases hb : ∃ b ∈ bs', key b.note = k
  · obtain ⟨b, hb, e⟩ := hb
    refine ⟨b.val, hv b hb, fun n hno => ?_⟩
    obtain ⟨p, hp, h1, h2⟩ := mem_oth.1 hno
    obtain ⟨a, ha, rfl⟩ := zAi.1 hp
    obtain ⟨h3, h4⟩ := mem_grp.1 ha
    apply Decidable.byContradiction
    intro hnl
    have h5 := hst a h3 (by rw [show a.note.id = n from h1]; exact hnl)
    exact h2 (hag a h5 b hb (h4.trans e.symm))
  · refine ⟨1, .inl rfl, fun n hno => ?_⟩
    obtain ⟨p, hp, h1, h2⟩ := mem_oth.1 hno
    obtain ⟨a, ha, rfl⟩ := zAi.1 hp
    obtain ⟨h3, h4⟩ := mem_grp.1 ha
    apply Decidable.byContradiction
    intro hnl
    exact hb ⟨a, hst a h3 (by rw [show a.note.id = n from h1]; exact hnl), h4⟩
 let w : List Bow → Int := fun g => if h : g ∈ clashG key bs ks then (hw g h).choose else 1
 have hw2 : ∀ g ∈ clashG key bs ks, (w g = 1 ∨ w g = 2) ∧ ∀ n ∈ oth (g.map pairB) (w g), n ∈ L := fun g hg => by
  have : w g = (hw g hg).choose := dif_pos hg
  rw [this]; exact (hw g hg).choose_spec
 have h1 : (fixL (clashG key bs ks)).length = ((fixL (clashG key bs ks)).map (·.1)).length := by rw [lLm]
 rw [h1, fixL_fst]
 refine zBb (flat_len (g := fun g => oth (g.map pairB) (w g)) fun g hg => chose_le _ (hw2 g hg).1) ?_
 refine (oths_nodup hn hk w).length_le_of_subset fun n hno => ?_
 obtain ⟨g, hg, h2⟩ := zCn.1 hno
 exact (hw2 g hg).2 n h2
end
end Go.Proofs.YtficfljjnbnhbaaGreatDoor.Bw
namespace Go.Proofs.YtficfljjnbnhbaaGreatDoor.Bw
open Go.Ab Mk
theorem okFor_iff {v n sec : Int} {r : Jo.Rdr} {m : Jo.Mark} : okFor v n 1 sec r m = true ↔ m.version = v ∧ m.note = n ∧ m.kind = 1 ∧ forM m sec r = true := by
 unfold okFor
 simp only [zAm, zAh, bne_eq_false_iff_eq, zAp]
 exact ⟨fun h => ⟨h.1.1.1, h.1.1.2, h.1.2, h.2⟩, fun h => ⟨⟨⟨h.1, h.2.1⟩, h.2.2.1⟩, h.2.2.2⟩⟩
def condAt (l : List Jo.Mark) (v n : Int) : Bool := l.any fun m => ((m.kind == 1 && m.layer == 4) && m.version == v) && m.note == n
theorem condAt_iff {l : List Jo.Mark} {v n : Int} : condAt l v n = true ↔ ∃ m ∈ l, m.kind = 1 ∧ m.layer = 4 ∧ m.version = v ∧ m.note = n := by
 unfold condAt
 rw [zBw]
 simp only [zA0, beq_iff_eq]
 exact ⟨fun ⟨m, h, h1⟩ => ⟨m, h, h1.1.1.1, h1.1.1.2, h1.1.2, h1.2⟩, fun ⟨m, h, h1⟩ => ⟨m, h, ⟨⟨h1.1, h1.2.1⟩, h1.2.2.1⟩, h1.2.2.2⟩⟩
def newM (v sec : Int) (l : List Jo.Mark) (id n w : Int) : Jo.Mark := if condAt l v n then ⟨id, 1, 4, ⟨0, 0, 0⟩, v, n, w, []⟩ else ⟨id, 1, 3, ⟨sec, 0, 0⟩, v, n, w, []⟩
theorem newM_ids (v sec : Int) (l : List Jo.Mark) (id n w : Int) : (newM v sec l id n w).id = id ∧ (newM v sec l id n w).kind = 1 ∧ (newM v sec l id n w).version = v ∧ (newM v sec l id n w).note = n ∧ (newM v sec l id n w).value = w ∧ (newM v sec l id n w).text = [] := by
 unfold newM; split <;> exact ⟨rfl, rfl, rfl, rfl, rfl, rfl⟩
theorem newM_for (v sec : Int) (l : List Jo.Mark) (id n w : Int) (r : Jo.Rdr) : forM (newM v sec l id n w) sec r = true := by
 unfold newM; split <;> simp [Mk.forM]
theorem newM_lay (v sec : Int) (l : List Jo.Mark) (id n w : Int) : (newM v sec l id n w).layer = if condAt l v n then 4 else 3 := by
 unfold newM; split <;> rfl
def newsL (v sec : Int) (l : List Jo.Mark) (id : Int) : List (Int × Int) → List Jo.Mark
 | [] => []
 | p :: fx => newM v sec l id p.1 p.2 :: newsL v sec l (id + 1) fx
theorem news_len (v sec : Int) (l : List Jo.Mark) : ∀ (fx : List (Int × Int)) (id : Int), (newsL v sec l id fx).length = fx.length
 | [], _ => rfl
 | p :: fx, id => by unfold newsL; rw [zA5, zA5, news_len v sec l fx]
theorem news_append (v sec : Int) (l : List Jo.Mark) : ∀ (a b : List (Int × Int)) (id : Int), newsL v sec l id (a ++ b) = newsL v sec l id a ++ newsL v sec l (id + a.length) b
 | [], b, id => by simp [newsL]
 | p :: a, b, id => by
   rw [List.cons_append, newsL, newsL, news_append v sec l a b, List.cons_append, zA5]
   rw [show id + 1 + (a.length : Int) = id + ((a.length + 1 : Nat) : Int) by omega]
theorem news_at (v sec : Int) (l : List Jo.Mark) : ∀ (fx : List (Int × Int)) (id : Int) (k : Nat), k < fx.length → (newsL v sec l id fx).getD k default = newM v sec l (id + k) (fx.getD k default).1 (fx.getD k default).2
 | [], _, _, h => absurd h (by simp)
 | p :: fx, id, 0, _ => by simp [newsL]
 | p :: fx, id, k + 1, h => by
   have := news_at v sec l fx (id + 1) k (by simpa using h)
   rw [newsL, List.getD_cons_succ, this, List.getD_cons_succ, show id + 1 + (k : Int) = id + ((k + 1 : Nat) : Int) by omega]
theorem mem_news {v sec : Int} {l : List Jo.Mark} {m : Jo.Mark} : ∀ {fx : List (Int × Int)} {id : Int}, m ∈ newsL v sec l id fx → ∃ k : Nat, k < fx.length ∧ m = newM v sec l (id + k) (fx.getD k default).1 (fx.getD k default).2
 | [], _, h => by cases h
 | p :: fx, id, h => by
   rcases zB7.1 h with rfl | h
   · exact ⟨0, by simp, by simp⟩
   · obtain ⟨k, hk, e⟩ := mem_news h
     refine ⟨k + 1, by simpa using hk, ?_⟩
     rw [e, List.getD_cons_succ, show id + 1 + (k : Int) = id + ((k + 1 : Nat) : Int) by omega]
theorem news_ids (v sec : Int) (l : List Jo.Mark) : ∀ (fx : List (Int × Int)) (id : Int), ((newsL v sec l id fx).map (·.id)).Nodup ∧ ∀ m ∈ newsL v sec l id fx, id ≤ m.id
 | [], _ => ⟨zCx, fun m h => by cases h⟩
 | p :: fx, id => by
   obtain ⟨h1, h2⟩ := news_ids v sec l fx (id + 1)
   have e := (newM_ids v sec l id p.1 p.2).1
   refine ⟨?_, fun m hm => ?_⟩
   · rw [newsL, zAz, zCb]
     refine ⟨fun h => ?_, h1⟩
     obtain ⟨m, hm, e2⟩ := zAi.1 h
     have := h2 m hm
     have e2 : m.id = _ := e2
     rw [e] at e2; omega
   · rcases zB7.1 hm with rfl | hm
     · rw [e]; omega
     · have := h2 m hm; omega
def resL (v sec : Int) (l : List Jo.Mark) (id : Int) (fx : List (Int × Int)) : List Jo.Mark := l ++ newsL v sec l id fx
theorem res_nodup {v sec : Int} {l : List Jo.Mark} {id : Int} {fx : List (Int × Int)} (hn : (l.map (·.id)).Nodup) (hid : ∀ m ∈ l, m.id < id) : ((resL v sec l id fx).map (·.id)).Nodup := by
 obtain ⟨h1, h2⟩ := news_ids v sec l fx id
 unfold resL
 rw [zAe, zBx]
 refine ⟨hn, h1, fun a ha b hb e => ?_⟩
 obtain ⟨x, hx, rfl⟩ := zAi.1 ha
 obtain ⟨y, hy, rfl⟩ := zAi.1 hb
 have := hid x hx
 have := h2 y hy
 omega
theorem layer_le {m : Jo.Mark} (h : Jo.markOk m = true) : m.layer ≤ 4 := by
 rcases markOk_layer h with h | h | h | h <;> omega
theorem val_new {v sec : Int} {l : List Jo.Mark} {id : Int} {fx : List (Int × Int)} (hok : ∀ m ∈ l, Jo.markOk m = true) (hn : (l.map (·.id)).Nodup) (hid : ∀ m ∈ l, m.id < id) (hf : (fx.map (·.1)).Nodup) (r : Jo.Rdr) {n w : Int} (h : (n, w) ∈ fx) :
 valB v sec (resL v sec l id fx) r n = w := by
 obtain ⟨k, hk, e⟩ := zAq.1 h
 have ek : fx.getD k default = (n, w) := by rw [getD_lt hk]; exact e
 obtain ⟨M, hM⟩ : ∃ M, newM v sec l (id + k) n w = M := ⟨_, rfl⟩
 obtain ⟨i1, i2, i3, i4, i5, _⟩ := newM_ids v sec l (id + k) n w
 have i6 := newM_for v sec l (id + k) n w r
 have i7 := newM_lay v sec l (id + k) n w
 rw [hM] at i1 i2 i3 i4 i5 i6 i7
 have hmem : M ∈ resL v sec l id fx := by
  have h1 := news_at v sec l fx id k hk
  rw [ek, hM] at h1
  refine zD6 _ ?_
  rw [← h1]
  have hl : k < (newsL v sec l id fx).length := by rw [news_len]; exact hk
  rw [getD_lt hl]; exact lGm hl
 have hb : bestM (okFor v n 1 sec r) (resL v sec l id fx) = some M := by
  refine bestM_uniq (res_nodup hn hid) hmem (okFor_iff.2 ⟨i3, i4, i2, i6⟩) fun m hm hq => ?_
  obtain ⟨q1, q2, q3, _⟩ := okFor_iff.1 hq
  rcases zB5.1 hm with hm | hm
  · right
    have hl := layer_le (hok m hm)
    have := hid m hm
    unfold cnt
    rw [i7, i1]
    by_cases hc : condAt l v n = true
    · rw [if_pos hc]
      split
      · exact decide_eq_true (by omega)
      · exact decide_eq_true (by omega)
    · rw [if_neg hc]
      have hne : m.layer ≠ 4 := fun e => hc (condAt_iff.2 ⟨m, hm, q3, e, q1, q2⟩)
      split
      · exact decide_eq_true (by omega)
      · exact decide_eq_true (by omega)
  · left
    obtain ⟨j, hj, rfl⟩ := mem_news hm
    have e1 := (newM_ids v sec l (id + j) (fx.getD j default).1 (fx.getD j default).2).2.2.2.1
    rw [e1] at q2
    have : j = k := by
     refine nodup_at (fun p : Int × Int => p.1) hf hj hk ?_
     rw [ek]; exact q2
    subst this
    rw [ek]; exact hM
 unfold valB
 rw [hb]; exact i5
theorem val_old {v sec : Int} {l : List Jo.Mark} {id : Int} {fx : List (Int × Int)} (hn : (l.map (·.id)).Nodup) (hid : ∀ m ∈ l, m.id < id) (r : Jo.Rdr) {n : Int} (h : ∀ w, (n, w) ∉ fx) :
 valB v sec (resL v sec l id fx) r n = valB v sec l r n := by
 unfold valB
 rw [bestM_same hn (res_nodup hn hid) fun m hq => ?_]
 constructor
 · exact fun hm => zCd _ hm
 · intro hm
   rcases zB5.1 hm with hm | hm
   · exact hm
   · exfalso
     obtain ⟨j, hj, rfl⟩ := mem_news hm
     have e1 := (newM_ids v sec l (id + j) (fx.getD j default).1 (fx.getD j default).2).2.2.2.1
     have q2 := (okFor_iff.1 hq).2.1
     rw [e1] at q2
     refine h (fx.getD j default).2 ?_
     rw [← q2]
     exact getD_mem hj
theorem val_more {v sec : Int} {l more : List Jo.Mark} (hn : ((l ++ more).map (·.id)).Nodup) (r : Jo.Rdr) {n : Int} (h : n ∉ more.map (·.note)) : valB v sec (l ++ more) r n = valB v sec l r n := by
 have hn1 : (l.map (·.id)).Nodup := by rw [zAe, zBx] at hn; exact hn.1
 unfold valB
 rw [bestM_same hn1 hn fun m hq => ?_]
 constructor
 · exact fun hm => zCd _ hm
 · intro hm
   rcases zB5.1 hm with hm | hm
   · exact hm
   · exact absurd (zAi.2 ⟨m, hm, (okFor_iff.1 hq).2.1⟩) h
def ownB (v : Int) (m : Jo.Mark) : Bool := (m.kind == 1 && m.version == v) && (m.layer != 1 || m.who.seat == 1)
theorem val_own {v sec : Int} {l : List Jo.Mark} (hn : (l.map (·.id)).Nodup) {r : Jo.Rdr} (hr : r.seat = 1) (n : Int) : valB v sec (l.filter (ownB v)) r n = valB v sec l r n := by
 have hn1 : ((l.filter (ownB v)).map (·.id)).Nodup := (List.filter_sublist.map _).nodup hn
 unfold valB
 rw [bestM_same hn hn1 fun m hq => ?_]
 rw [zBn]
 refine ⟨fun h => ⟨h, ?_⟩, fun h => h.1⟩
 obtain ⟨q1, q2, q3, q4⟩ := okFor_iff.1 hq
 unfold ownB
 rw [q1, q3]
 by_cases h1 : m.layer = 1
 · unfold Mk.forM at q4
   rw [if_pos h1] at q4
   have : m.who = r := by simpa using q4
   rw [this, hr]; simp
 · simp [h1]
theorem val_in {v sec : Int} {l : List Jo.Mark} (hok : ∀ m ∈ l, Jo.markOk m = true) (hn : (l.map (·.id)).Nodup) (r : Jo.Rdr) (n : Int) : 0 ≤ valB v sec l r n ∧ valB v sec l r n ≤ 2 := by
 unfold valB
 cases h : bestM (okFor v n 1 sec r) l with
 | none => exact ⟨by decide, by decide⟩
 | some m =>
   obtain ⟨h1, h2, _⟩ := bestM_some hn h
   have h3 := hok m h1
   have h4 := (okFor_iff.1 h2).2.2.1
   unfold Jo.markOk Jo.inR at h3
   simp only [zA0, zBe, dEt, bne_iff_ne, ne_eq] at h3
   dsimp only
   omega
abbrev K3 := Int × Int × Int
def lt3 (a b : K3) : Bool := decide (a.1 < b.1) || (a.1 == b.1 && (decide (a.2.1 < b.2.1) || (a.2.1 == b.2.1 && decide (a.2.2 < b.2.2))))
theorem lt3_iff {a b : K3} : lt3 a b = true ↔ a.1 < b.1 ∨ (a.1 = b.1 ∧ (a.2.1 < b.2.1 ∨ (a.2.1 = b.2.1 ∧ a.2.2 < b.2.2))) := by
 unfold lt3; simp
theorem lt3_irr (a : K3) : lt3 a a = false := by
 cases h : lt3 a a with
 | false => rfl
 | true => rw [lt3_iff] at h; omega
theorem lt3_trans {a b c : K3} (h1 : lt3 a b = true) (h2 : lt3 b c = true) : lt3 a c = true := by
 rw [lt3_iff] at *; omega
theorem lt3_total {a b : K3} (h : a ≠ b) : lt3 a b = true ∨ lt3 b a = true := by
 rw [lt3_iff, lt3_iff]
 obtain ⟨a1, a2, a3⟩ := a
 obtain ⟨b1, b2, b3⟩ := b
 have : ¬ (a1 = b1 ∧ a2 = b2 ∧ a3 = b3) := fun ⟨h1, h2, h3⟩ => h (by rw [h1, h2, h3])
 dsimp only
 omega
abbrev Ord3 (l : List K3) : Prop := l.Pairwise fun a b => lt3 a b = true
theorem ord3_nodup {l : List K3} (h : Ord3 l) : l.Nodup := h.imp fun {a b} h e => by
 subst e; rw [lt3_irr] at h; cases h
theorem ord3_uniq : ∀ {l m : List K3}, Ord3 l → Ord3 m → (∀ x, x ∈ l ↔ x ∈ m) → l = m
 | [], [], _, _, _ => rfl
 | [], y :: m, _, _, h => absurd ((h y).2 (zAo ..)) (by simp)
 | x :: l, [], _, _, h => absurd ((h x).1 (zAo ..)) (by simp)
 | x :: l, y :: m, h1, h2, h => by
   rw [Ord3, List.pairwise_cons] at h1 h2
   have e : x = y := by
    rcases zB7.1 ((h x).1 (zAo ..)) with e | hx
    · exact e
    · rcases zB7.1 ((h y).2 (zAo ..)) with e | hy
      · exact e.symm
      · have a1 := h1.1 y hy
        have a2 := h2.1 x hx
        have := lt3_trans a1 a2
        rw [lt3_irr] at this; cases this
   subst e
   rw [ord3_uniq h1.2 h2.2 fun z => ?_]
   have hz := h z
   rw [zB7, zB7] at hz
   constructor
   · intro hl
     rcases hz.1 (.inr hl) with rfl | hm
     · have := h1.1 z hl; rw [lt3_irr] at this; cases this
     · exact hm
   · intro hm
     rcases hz.2 (.inr hm) with rfl | hl
     · have := h2.1 z hm; rw [lt3_irr] at this; cases this
     · exact hl
def plK (key : Note → K3) (n : Note) (out : List Note) : Nat := out.findIdx fun x => lt3 (key n) (key x)
def kindStep (key : Note → K3) (out : List Note) (n : Note) : List Note := if out.any (fun x => key x == key n) then out else out.take (plK key n out) ++ n :: out.drop (plK key n out)
def kindsL (key : Note → K3) (l : List Note) : List Note := l.foldl (kindStep key) []
theorem kinds_snoc (key : Note → K3) (l : List Note) (n : Note) : kindsL key (l ++ [n]) = kindStep key (kindsL key l) n := by unfold kindsL; rw [zC7]; rfl
theorem kindStep_ord {key : Note → K3} {out : List Note} (h : Ord3 (out.map key)) (n : Note) : Ord3 ((kindStep key out n).map key) ∧ ∀ k, k ∈ (kindStep key out n).map key ↔ k ∈ out.map key ∨ k = key n := by
 unfold kindStep
 split
 · rename_i ha
   rw [zBw] at ha
   obtain ⟨x, hx, e⟩ := ha
   have e : key x = key n := by simpa using e
   refine ⟨h, fun k => ⟨.inl, ?_⟩⟩
   rintro (h | rfl)
   · exact h
   · rw [← e]; exact zAi.2 ⟨x, hx, rfl⟩
 · rename_i ha
   have hne : ∀ x ∈ out, key x ≠ key n := fun x hx e => ha (zBw.2 ⟨x, hx, by simpa using e⟩)
   obtain ⟨p, hp⟩ : ∃ p, plK key n out = p := ⟨_, rfl⟩
   rw [hp]
   have hlo : ∀ x ∈ out.take p, lt3 (key x) (key n) = true := fun x hx => by
    obtain ⟨j, hj, rfl⟩ := List.mem_take_iff_getElem.1 hx
    have h1 : ¬ (fun x => lt3 (key n) (key x)) out[j] = true := by
     have := List.not_of_lt_findIdx (p := fun x => lt3 (key n) (key x)) (xs := out) (i := j) (by unfold plK at hp; omega)
     show ¬ lt3 (key n) (key out[j]) = true
     rw [this]; decide
    rcases lt3_total (hne out[j] (lGm _)) with h2 | h2
    · exact h2
    · exact absurd h2 h1
   have hhi : ∀ x ∈ out.drop p, lt3 (key n) (key x) = true := fun x hx => by
    obtain ⟨j, hj, rfl⟩ := List.mem_drop_iff_getElem.1 hx
    have hpl : p < out.length := by omega
    have h1 : lt3 (key n) (key out[p]) = true := by
     have := List.findIdx_getElem (p := fun x => lt3 (key n) (key x)) (xs := out) (w := by unfold plK at hp; omega)
     unfold plK at hp
     simp only [hp] at this
     exact this
    rcases zBk j with rfl | h0
    · exact h1
    · have h2 := (zC1.1 h) p (p + j) (by rw [lLm]; omega) (by rw [lLm]; omega) (by omega)
      rw [zCo, zCo] at h2
      exact lt3_trans h1 h2
   refine ⟨?_, fun k => ?_⟩
   · have h3 := h
     rw [← zCu p out, zAe] at h3
     rw [Ord3, List.pairwise_append] at h3
     rw [zAe, zAz, Ord3, List.pairwise_append, List.pairwise_cons]
     refine ⟨h3.1, ⟨fun y hy => ?_, h3.2.1⟩, fun x hx y hy => ?_⟩
     · obtain ⟨z, hz, rfl⟩ := zAi.1 hy
       exact hhi z hz
     · obtain ⟨z, hz, rfl⟩ := zAi.1 hx
       rcases zB7.1 hy with rfl | hy
       · exact hlo z hz
       · exact h3.2.2 _ hx y hy
   · conv => rhs; lhs; rw [← zCu p out, zAe, zB5]
     rw [zAe, zAz, zB5, zB7]
     constructor
     · rintro (h | h | h)
       · exact .inl (.inl h)
       · exact .inr h
       · exact .inl (.inr h)
     · rintro ((h | h) | h)
       · exact .inl h
       · exact .inr (.inr h)
       · exact .inr (.inl h)
theorem kinds_go (key : Note → K3) : ∀ (l out : List Note), Ord3 (out.map key) → Ord3 ((l.foldl (kindStep key) out).map key) ∧ ∀ k, k ∈ (l.foldl (kindStep key) out).map key ↔ k ∈ out.map key ∨ k ∈ l.map key
 | [], out, h => ⟨h, fun k => by simp⟩
 | n :: l, out, h => by
   obtain ⟨h1, h2⟩ := kindStep_ord h n
   obtain ⟨h3, h4⟩ := kinds_go key l _ h1
   refine ⟨h3, fun k => ?_⟩
   rw [zDm, h4 k, h2 k, zAz, zB7, or_assoc]
theorem kinds_ord (key : Note → K3) (l : List Note) : Ord3 ((kindsL key l).map key) := (kinds_go key l [] List.Pairwise.nil).1
theorem kinds_mem (key : Note → K3) (l : List Note) (k : K3) : k ∈ (kindsL key l).map key ↔ k ∈ l.map key := by
 have := (kinds_go key l [] List.Pairwise.nil).2 k
 unfold kindsL
 rw [this]; simp
theorem kinds_len (key : Note → K3) (l : List Note) : (kindsL key l).length ≤ l.length := by
 have h1 := ord3_nodup (kinds_ord key l)
 have h2 : (kindsL key l).map key ⊆ l.map key := fun k hk => (kinds_mem key l k).1 hk
 have := h1.length_le_of_subset h2
 simpa using this
theorem kinds_sub (key : Note → K3) : ∀ (l out : List Note), ∀ n ∈ l.foldl (kindStep key) out, n ∈ out ∨ n ∈ l
 | [], out, n, h => .inl h
 | x :: l, out, n, h => by
   rcases kinds_sub key l _ n h with h | h
   · unfold kindStep at h
     split at h
     · exact .inl h
     · rcases zB5.1 h with h | h
       · exact .inl (zDd h)
       · rcases zB7.1 h with rfl | h
         · exact .inr (zAo ..)
         · exact .inl (List.mem_of_mem_drop h)
   · exact .inr (zAv _ h)
def keysB (key : Note → K3) (bs : List Bow) : List K3 := (kindsL key (bs.map (·.note))).map key
theorem keysB_nodup (key : Note → K3) (bs : List Bow) : (keysB key bs).Nodup := ord3_nodup (kinds_ord key _)
theorem keysB_mem (key : Note → K3) (bs : List Bow) (k : K3) : k ∈ keysB key bs ↔ ∃ b ∈ bs, key b.note = k := by
 unfold keysB
 rw [kinds_mem, zC6, lMm]; rfl
def clashL (key : Note → K3) (bs : List Bow) : List (List Bow) := clashG key bs (keysB key bs)
theorem keysB_all (key : Note → K3) (bs : List Bow) : ∀ b ∈ bs, key b.note ∈ keysB key bs := fun b hb => (keysB_mem key bs _).2 ⟨b, hb, rfl⟩
end Go.Proofs.YtficfljjnbnhbaaGreatDoor.Bw
