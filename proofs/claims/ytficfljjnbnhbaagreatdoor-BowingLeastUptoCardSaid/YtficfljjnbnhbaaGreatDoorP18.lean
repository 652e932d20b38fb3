/- Bowings in plain words: the key of a note tells what is alike.  Bowings in plain words: the laws.  Bowings in plain words: a clash as it is handed in, its choices; what restores. No statement is proved here. -/
import Derived.Test.YtficfljjnbnhbaaGreatDoorP13
import Derived.Test.YtficfljjnbnhbaaGreatDoorP15
import Derived.Test.YtficfljjnbnhbaaGreatDoorP17
set_option linter.unusedVariables false
set_option linter.unusedSimpArgs false
namespace Go.Proofs.YtficfljjnbnhbaaGreatDoor.Bw
open Go.Ab Mk
theorem dvd_gcd_one {k m n : Int} (h : k ∣ m * n) (hg : Int.gcd k m = 1) : k ∣ n := by
 rw [← Int.natAbs_dvd_natAbs] at h ⊢
 rw [Int.natAbs_mul] at h
 exact Nat.Coprime.dvd_of_dvd_mul_left hg h
theorem ticksV_inj {a b : Rat} (ha : durOk a = true) (hb : durOk b = true) (h : ticksV a = ticksV b) : a = b := by
 obtain ⟨a1, a2, a3⟩ := durOk_iff.1 ha
 obtain ⟨b1, b2, b3⟩ := durOk_iff.1 hb
 have c1 := ratOk_iff.1 a1
 have c2 := ratOk_iff.1 b1
 obtain ⟨an, ad⟩ := a
 obtain ⟨bn, bd⟩ := b
 dsimp only at *
 unfold ticksV at h
 dsimp only at h
 have e1 : ad * Int.tdiv 1680 ad = 1680 := by have := Int.mul_tdiv_add_tmod 1680 ad; omega
 have e2 : bd * Int.tdiv 1680 bd = 1680 := by have := Int.mul_tdiv_add_tmod 1680 bd; omega
 generalize Int.tdiv 1680 ad = q at *
 generalize Int.tdiv 1680 bd = r at *
 have e3 : an * bd = bn * ad := by
  have h1 : (an * bd) * 1680 = (bn * ad) * 1680 := by
   calc (an * bd) * 1680 = (an * bd) * (ad * q) := by rw [e1]
    _ = (an * q) * (ad * bd) := by ac_rfl
    _ = (bn * r) * (ad * bd) := by rw [h]
    _ = (bn * ad) * (bd * r) := by ac_rfl
    _ = _ := by rw [e2]
  omega
 have d1 : ad ∣ bd := by
  refine dvd_gcd_one (n := bd) (m := an) ⟨bn, by rw [e3]; ac_rfl⟩ ?_
  rw [Int.gcd_comm]; exact c1.2.2.2.2
 have d2 : bd ∣ ad := by
  refine dvd_gcd_one (n := ad) (m := bn) ⟨an, by rw [← e3]; ac_rfl⟩ ?_
  rw [Int.gcd_comm]; exact c2.2.2.2.2
 have e4 : ad = bd := Int.le_antisymm (Int.le_of_dvd (by omega) d1) (Int.le_of_dvd (by omega) d2)
 subst e4
 have e5 : an = bn := Int.eq_of_mul_eq_mul_right (by omega) e3
 rw [e5]
def keyT (bars : List Bar) (n : Note) : K3 := (barAt bars n.bar, ticksV n.start, ticksV n.len)
def alikeB (a b : Note) : Bool := (a.bar == b.bar && a.start == b.start) && a.len == b.len
theorem formed_dur {b : Bar} {n : Note} (h : nformed b n = true) : durOk n.start = true ∧ durOk n.len = true := by
 unfold nformed fits at h
 simp only [zA0] at h
 have f : ∀ r : Rat, (ticksR r).2 = true → durOk r = true := fun r hr => by
  unfold ticksR at hr
  split at hr
  · rename_i h; exact h
  · cases hr
 exact ⟨f _ h.1.1.1.1, f _ h.1.1.1.2⟩
theorem note_formed {s : Score} (h : scoreOk s = true) {n : Note} (hn : n ∈ s.notes) : ∃ j : Nat, j < s.bars.length ∧ barAt s.bars n.bar = j ∧ durOk n.start = true ∧ durOk n.len = true := by
 have h1 : notesOk s.bars s.notes = true := by
  unfold scoreOk scoreBad at h
  simp only [zA0, zAm, zAh, zAp] at h
  exact h.1.1.2
 have h2 : noteOk s.bars n = true := by
  unfold notesOk at h1
  simp only [zA0, zA8] at h1
  exact h1.1.2 n hn
 unfold noteOk at h2
 split at h2
 · rename_i i hi
   obtain ⟨j, rfl, h3, h4⟩ := lk_idx s.bars n.bar _ _ hi
   obtain ⟨f1, f2⟩ := formed_dur h2
   have hx : barAt s.bars n.bar ≥ 0 := by
    unfold barAt
    rcases (show findI (fun b : Bar => b.id == n.bar) s.bars ≥ 0 ∨ findI (fun b : Bar => b.id == n.bar) s.bars < 0 by omega) with g | g
    · exact g
    · exfalso
      have g2 := findI_neg.1 g
      unfold findI at g2
      split at g2
      · omega
      · rename_i g3
        rw [zCg] at g3
        have := g3 (s.bars.getD j default) (by rw [getD_lt h3]; exact lGm h3)
        rw [h4] at this; simp at this
   obtain ⟨k, hk, hkl, _, _⟩ := findI_lt (p := fun b : Bar => b.id == n.bar) (l := s.bars) hx
   exact ⟨k, hkl, hk, f1, f2⟩
 · cases h2
theorem key_alike {s : Score} (h : scoreOk s = true) {a b : Note} (ha : a ∈ s.notes) (hb : b ∈ s.notes) : keyT s.bars a = keyT s.bars b ↔ alikeB a b = true := by
 unfold keyT alikeB
 simp only [Prod.mk.injEq, zA0, beq_iff_eq]
 constructor
 · rintro ⟨h1, h2, h3⟩
   obtain ⟨i, hi, e1, a1, a2⟩ := note_formed h ha
   obtain ⟨j, hj, e2, b1, b2⟩ := note_formed h hb
   refine ⟨⟨?_, ticksV_inj a1 b1 h2⟩, ticksV_inj a2 b2 h3⟩
   have e3 : i = j := by omega
   subst e3
   obtain ⟨k, hk, _, x1, _⟩ := findI_lt (p := fun x : Bar => x.id == a.bar) (l := s.bars) (by unfold barAt at e1; omega)
   obtain ⟨k', hk', _, x2, _⟩ := findI_lt (p := fun x : Bar => x.id == b.bar) (l := s.bars) (by unfold barAt at e2; omega)
   have : k = i := by unfold barAt at e1; omega
   subst this
   have : k' = k := by unfold barAt at e2; omega
   subst this
   rw [← beq_iff_eq.1 x1, ← beq_iff_eq.1 x2]
 · rintro ⟨⟨h1, h2⟩, h3⟩
   rw [h1, h2, h3]; exact ⟨rfl, rfl, rfl⟩
theorem playN_same (p : Part) (n : Note) : (playN p n).id = n.id ∧ (playN p n).bar = n.bar ∧ (playN p n).start = n.start ∧ (playN p n).len = n.len := ⟨rfl, rfl, rfl, rfl⟩
theorem seat_note {s : Score} {sec : Int} {q : Jo.Rdr × Note} (h : q ∈ seatsL s sec) : ∃ n ∈ s.notes, q.2.id = n.id ∧ q.2.bar = n.bar ∧ q.2.start = n.start ∧ q.2.len = n.len := by
 obtain ⟨r, n⟩ := q
 obtain ⟨p, _, _, hn, _⟩ := mem_seats.1 h
 unfold playedL at hn
 obtain ⟨m, hm, rfl⟩ := zAi.1 hn
 obtain ⟨e1, e2, e3, e4⟩ := playN_same p m
 exact ⟨m, (zBn.1 hm).1, e1, e2, e3, e4⟩
theorem key_same {bars : List Bar} {a b : Note} (h1 : a.bar = b.bar) (h2 : a.start = b.start) (h3 : a.len = b.len) : keyT bars a = keyT bars b := by unfold keyT; rw [h1, h2, h3]
theorem seat_alike {s : Score} (h : scoreOk s = true) {sec : Int} {q r : Jo.Rdr × Note} (hq : q ∈ seatsL s sec) (hr : r ∈ seatsL s sec) : keyT s.bars q.2 = keyT s.bars r.2 ↔ alikeB q.2 r.2 = true := by
 obtain ⟨a, ha, _, a1, a2, a3⟩ := seat_note hq
 obtain ⟨b, hb, _, b1, b2, b3⟩ := seat_note hr
 rw [key_same a1 a2 a3, key_same b1 b2 b3, key_alike h ha hb]
 unfold alikeB
 rw [a1, a2, a3, b1, b2, b3]
theorem seat_id {s : Score} (h : scoreOk s = true) {sec : Int} {q r : Jo.Rdr × Note} (hq : q ∈ seatsL s sec) (hr : r ∈ seatsL s sec) (e : q.2.id = r.2.id) : keyT s.bars q.2 = keyT s.bars r.2 := by
 obtain ⟨a, ha, a0, a1, a2, a3⟩ := seat_note hq
 obtain ⟨b, hb, b0, b1, b2, b3⟩ := seat_note hr
 have e2 : a.id = b.id := by rw [← a0, ← b0]; exact e
 have hn : (s.notes.map (·.id)).Nodup := scoreOk_nodup h
 obtain ⟨i, hi, e3⟩ := zAq.1 ha
 obtain ⟨j, hj, e4⟩ := zAq.1 hb
 have : i = j := nodup_at (fun n : Note => n.id) hn hi hj (by rw [getD_lt hi, getD_lt hj, e3, e4]; exact e2)
 subst this
 have : a = b := e3.symm.trans e4
 subst this
 rw [key_same a1 a2 a3, key_same b1 b2 b3]
section
variable {s : Score} {l : List Jo.Mark} {sec : Int} {ex : List Int}
def clashes (s : Score) (l : List Jo.Mark) (sec : Int) (ex : List Int) : List (List Bow) := clashL (keyT s.bars) (bowsL s l sec ex)
theorem bow_seat {b : Bow} (h : b ∈ bowsL s l sec ex) : (b.rdr, b.note) ∈ seatsL s sec := (mem_bows.1 h).1
theorem bows_key (hs : scoreOk s = true) (l l' : List Jo.Mark) (sec : Int) (ex ex' : List Int) : ∀ a ∈ bowsL s l sec ex, ∀ b ∈ bowsL s l' sec ex', a.note.id = b.note.id → keyT s.bars a.note = keyT s.bars b.note := fun a ha b hb e => seat_id hs (bow_seat ha) (bow_seat hb) e
theorem fix_ids (hs : scoreOk s = true) (l : List Jo.Mark) (sec : Int) (ex : List Int) : ((fixL (clashes s l sec ex)).map (·.1)).Nodup := fix_nodup (keysB_nodup _ _) (bows_key hs l l sec ex ex)
theorem mem_fix {n w : Int} (h : (n, w) ∈ fixL (clashes s l sec ex)) : (w = 1 ∨ w = 2) ∧ ∃ g ∈ clashes s l sec ex, ∃ b ∈ g, b ∈ bowsL s l sec ex ∧ b.note.id = n := by
 obtain ⟨k, hk, hd, hw, b, hb, e1, e2, _⟩ := mem_fixL.1 h
 refine ⟨by rw [hw]; exact chose_in _, _, mem_clash.2 ⟨k, hk, rfl, hd⟩, b, mem_grp.2 ⟨hb, e1⟩, hb, e2⟩
theorem restores (hs : scoreOk s = true) (hm : marksOk l = true) {id : Int} (hid : ∀ m ∈ l, m.id < id) : clashes s (resL s.version sec l id (fixL (clashes s l sec ex))) sec ex = [] := by
 have hn := marksOk_nodup hm
 have hok : ∀ m ∈ l, Jo.markOk m = true := fun m h => marksOk_mem hm h
 have hf := fix_ids hs l sec ex
 unfold clashes clashL at hf ⊢
 refine restored (key := keyT s.bars) (bs := bowsL s l sec ex) (keysB_all _ _) (keysB_all _ _) (bows_key hs _ _ _ _ _) (fun b hb w hw => ?_) (fun b hb hno => ?_)
 · obtain ⟨_, h2, _, _⟩ := mem_bows.1 hb
   rw [h2]; exact val_new hok hn hid hf _ hw
 · obtain ⟨h1, h2, h3, h4⟩ := mem_bows.1 hb
   rw [val_old hn hid _ hno] at h2
   exact mem_bows.2 ⟨h1, h2, h3, h4⟩
theorem fix_nil : fixL (clashes s l sec ex) = [] ↔ clashes s l sec ex = [] := by
 constructor
 · intro h
   cases hc : clashes s l sec ex with
   | nil => rfl
   | cons g r =>
     exfalso
     have hg : g ∈ clashes s l sec ex := by rw [hc]; exact zAo ..
     obtain ⟨k, _, e, hd⟩ := mem_clash.1 hg
     obtain ⟨a, ha, b, hb, hne⟩ := differs_iff.1 hd
     have : ∃ c ∈ g, c.val ≠ chose (g.map pairB) := by
      by_cases e : a.val = chose (g.map pairB)
      · exact ⟨b, hb, fun e2 => hne (e.trans e2.symm)⟩
      · exact ⟨a, ha, e⟩
     obtain ⟨c, hc1, hc2⟩ := this
     have hm : (c.note.id, chose (g.map pairB)) ∈ fixL (clashes s l sec ex) := zCn.2 ⟨g, hg, mem_fixG.2 ⟨rfl, c, hc1, rfl, hc2⟩⟩
     rw [h] at hm; cases hm
 · intro h; rw [h]; rfl
theorem note_in (hs : scoreOk s = true) {n : Note} (hn : n ∈ s.notes) : 1 ≤ n.id ∧ n.id ≤ 1000000 := by
 have h1 : notesOk s.bars s.notes = true := by
  unfold scoreOk scoreBad at hs
  simp only [zA0, zAm, zAh, zAp] at hs
  exact hs.1.1.2
 have h2 : noteOk s.bars n = true := by
  unfold notesOk at h1
  simp only [zA0, zA8] at h1
  exact h1.1.2 n hn
 unfold noteOk at h2
 split at h2
 · unfold nformed noteForm inB at h2
   simp only [zA0, dEt] at h2
   omega
 · cases h2
theorem ver_in (hs : scoreOk s = true) : 1 ≤ s.version ∧ s.version ≤ 1000000 := by
 unfold scoreOk scoreBad inB at hs
 simp only [zA0, zAm, zAh, zAp, dEt] at hs
 omega
theorem newM_ok {v : Int} {id n w : Int} (h1 : 1 ≤ id ∧ id ≤ 1000000) (h2 : 1 ≤ v ∧ v ≤ 1000000) (h3 : 1 ≤ n ∧ n ≤ 1000000) (h4 : w = 1 ∨ w = 2) (h5 : 0 ≤ sec ∧ sec ≤ 99) (l : List Jo.Mark) : Jo.markOk (newM v sec l id n w) = true := by
 unfold newM
 split
 · unfold Jo.markOk Jo.textOk Jo.byOk Jo.isId Jo.inR
   simp; omega
 · unfold Jo.markOk Jo.textOk Jo.byOk Jo.isId Jo.inR
   simp; omega
theorem fix_note (hs : scoreOk s = true) {n w : Int} (h : (n, w) ∈ fixL (clashes s l sec ex)) : 1 ≤ n ∧ n ≤ 1000000 := by
 obtain ⟨_, _, _, b, _, hb, e⟩ := mem_fix h
 obtain ⟨m, hm, e2, _⟩ := seat_note (bow_seat hb)
 rw [← e, e2]; exact note_in hs hm
theorem bow_val (hm : marksOk l = true) {b : Bow} (hb : b ∈ bowsL s l sec ex) : b.val = 1 ∨ b.val = 2 := by
 obtain ⟨_, h2, h3, _⟩ := mem_bows.1 hb
 have := val_in (v := s.version) (sec := sec) (fun m h => marksOk_mem hm h) (marksOk_nodup hm) b.rdr b.note.id
 omega
theorem least_law0 (hs : scoreOk s = true) {more : List Jo.Mark} (hm : marksOk (l ++ more) = true) (h0 : clashes s (l ++ more) sec ex = []) : (fixL (clashes s l sec ex)).length ≤ more.length := by
 have := least (key := keyT s.bars) (bs := bowsL s l sec ex) (bs' := bowsL s (l ++ more) sec ex) (ks := keysB (keyT s.bars) (bowsL s l sec ex)) (ks' := keysB (keyT s.bars) (bowsL s (l ++ more) sec ex)) (keysB_nodup _ _) (bows_key hs _ _ _ _ _) (keysB_all _ _) (fun b hb => bow_val hm hb) h0 (L := more.map (·.note)) (fun b hb hno => by
  obtain ⟨h1, h2, h3, h4⟩ := mem_bows.1 hb
  refine mem_bows.2 ⟨h1, ?_, h3, h4⟩
  rw [val_more (marksOk_nodup hm) _ hno]; exact h2)
 rwa [lLm] at this
theorem filterMap_same {α β : Type} {f g : α → Option β} : ∀ {l : List α}, (∀ a ∈ l, f a = g a) → l.filterMap f = l.filterMap g
 | [], _ => rfl
 | a :: l, h => by
   rw [List.filterMap_cons, List.filterMap_cons, h a (zAo ..), filterMap_same (l := l) fun b hb => h b (zAv _ hb)]
theorem bows_own (hm : marksOk l = true) : bowsL s (l.filter (ownB s.version)) sec ex = bowsL s l sec ex := by
 unfold bowsL bowsOf
 refine filterMap_same fun q hq => ?_
 obtain ⟨r, n⟩ := q
 obtain ⟨p, _, _, _, d, _, rfl⟩ := mem_seats.1 hq
 unfold bowN
 rw [val_own (marksOk_nodup hm) rfl]
theorem bows_all : bowsL s l sec (s.notes.map (·.id)) = [] := by
 cases h : bowsL s l sec (s.notes.map (·.id)) with
 | nil => rfl
 | cons b r =>
   exfalso
   have hb : b ∈ bowsL s l sec (s.notes.map (·.id)) := by rw [h]; exact zAo ..
   obtain ⟨h1, _, _, h4⟩ := mem_bows.1 hb
   obtain ⟨m, hm, e, _⟩ := seat_note h1
   exact h4 (zAi.2 ⟨m, hm, e.symm⟩)
theorem clash_ex {g : List Bow} (hg : g ∈ clashes s l sec ex) {b : Bow} (hb : b ∈ g) : b.note.id ∉ ex := by
 obtain ⟨k, _, rfl, _⟩ := mem_clash.1 hg
 exact (mem_bows.1 (mem_grp.1 hb).1).2.2.2
theorem clashes_nil (hs : scoreOk s = true) : clashes s l sec ex = [] ↔ ∀ a ∈ bowsL s l sec ex, ∀ b ∈ bowsL s l sec ex, alikeB a.note b.note = true → a.val = b.val := by
 unfold clashes clashL
 rw [clash_nil (keysB_all _ _)]
 constructor
 · intro h a ha b hb e
   exact h a ha b hb ((seat_alike hs (bow_seat ha) (bow_seat hb)).2 e)
 · intro h a ha b hb e
   exact h a ha b hb ((seat_alike hs (bow_seat ha) (bow_seat hb)).1 e)
end
end Go.Proofs.YtficfljjnbnhbaaGreatDoor.Bw
namespace Go.Proofs.YtficfljjnbnhbaaGreatDoor.Bw
open Go.Ab Mk
structure Cl where
 notes : List Int
 vals : List Int
 rdrs : List Jo.Rdr
deriving Inhabited
structure Cl.Sized (c : Cl) : Prop where
 notes : c.notes.length ≤ 9223372036854775807
 vals : c.vals.length ≤ 9223372036854775807
 rdrs : c.rdrs.length ≤ 9223372036854775807
def psC (c : Cl) : List (Int × Int) := c.notes.zip c.vals
theorem psC_len {c : Cl} (h : c.notes.length = c.vals.length) : (psC c).length = c.vals.length := by unfold psC; rw [List.length_zip]; omega
theorem psC_at {c : Cl} (h : c.notes.length = c.vals.length) {k : Nat} (hk : k < c.vals.length) : (psC c).getD k default = (c.notes.getD k default, c.vals.getD k default) := by
 have hk2 : k < (psC c).length := by rw [psC_len h]; exact hk
 rw [getD_lt hk2, getD_lt hk, getD_lt (by omega)]
 exact List.getElem_zip
theorem takeS' {α : Type} [Inhabited α] {l : List α} {k : Nat} (h : k < l.length) : l.take (k + 1) = l.take k ++ [l.getD k default] := by rw [zBt]; simp [List.getD, h]
def hasI (l : List Int) (v : Int) : Bool := l.any fun s => s == v
theorem hasI_iff {l : List Int} {v : Int} : hasI l v = true ↔ v ∈ l := by
 unfold hasI; rw [zBw]; simp
theorem oth_take {c : Cl} (h : c.notes.length = c.vals.length) {k : Nat} (hk : k < c.vals.length) {n v : Int} (hn : c.notes.getD k default = n) (hv : c.vals.getD k default = v) (w : Int) :
 oth ((psC c).take (k + 1)) w = if (v != w && !hasI (oth ((psC c).take k) w) n) = true then oth ((psC c).take k) w ++ [n] else oth ((psC c).take k) w := by
 rw [takeS' (by rw [psC_len h]; exact hk), psC_at h hk, hn, hv, oth_snoc]
 unfold othStep
 dsimp only
 by_cases h1 : v = w
 · rw [if_neg (fun g => g.1 h1), if_neg]; simp [h1]
 · by_cases h2 : n ∈ oth ((psC c).take k) w
   · rw [if_neg (fun g => g.2 h2), if_neg]
     rw [hasI_iff.2 h2]; simp
   · rw [if_pos ⟨h1, h2⟩, if_pos]
     have : hasI (oth ((psC c).take k) w) n = false := by
      cases g : hasI (oth ((psC c).take k) w) n with
      | false => rfl
      | true => exact absurd (hasI_iff.1 g) h2
     rw [this]; simpa using h1
def clForm (c : Cl) : Bool := (((((!(c.notes.length != c.vals.length)) && !(c.rdrs.length != c.vals.length)) && !decide ((c.vals.length : Int) > 20000)) && !c.notes.any fun n => !Jo.isId n) && !c.rdrs.any fun r => !Jo.isRdr r) && !c.vals.any fun v => v != 1 && v != 2
def clOk (c : Cl) : Bool := clForm c && (hasI c.vals 1 && hasI c.vals 2)
def leastC (c : Cl) : Int := min ((oth (psC c) 1).length : Int) ((oth (psC c) 2).length : Int)
def selC (c : Cl) : List Int := [1, 2].filter fun v => ((oth (psC c) v).length : Int) == leastC c
def choR (c : Cl) : (List Int × Int) × Int := if clOk c then ((selC c, leastC c), 0) else (([], 0), 1)
theorem filt2 (q : Int → Bool) : [1, 2].filter q = (if q 1 then [1] else []) ++ (if q 2 then [2] else []) := by
 cases h1 : q 1 <;> cases h2 : q 2 <;> simp [List.filter, h1, h2]
theorem clForm_iff {c : Cl} (h : clForm c = true) : c.notes.length = c.vals.length ∧ c.rdrs.length = c.vals.length ∧ c.vals.length ≤ 20000 := by
 unfold clForm at h
 simp only [zA0, zAm, bne_eq_false_iff_eq, dEf] at h
 exact ⟨h.1.1.1.1.1, h.1.1.1.1.2, by omega⟩
def clAt (c : Cl) (k : Nat) : Bool := (Jo.isRdr (c.rdrs.getD k default) && Jo.isId (c.notes.getD k default)) && Jo.inR (c.vals.getD k default) 1 2
theorem any_getD {α : Type} [Inhabited α] {q : α → Bool} {l : List α} : l.any q = true ↔ ∃ j, j < l.length ∧ q (l.getD j default) = true := by
 rw [zBw]
 constructor
 · rintro ⟨x, hx, h⟩
   obtain ⟨j, hj, rfl⟩ := zAq.1 hx
   exact ⟨j, hj, by rw [getD_lt hj]; exact h⟩
 · rintro ⟨j, hj, h⟩
   exact ⟨_, by rw [getD_lt hj]; exact lGm hj, h⟩
theorem val12 (v : Int) : Jo.inR v 1 2 = !(v != 1 && v != 2) := by
 unfold Jo.inR
 rw [zAs]
 simp only [zAm, zA0, dEt, zCj, bne_eq_false_iff_eq, zBe, zCr]
 omega
def clLen (c : Cl) : Bool := ((c.notes.length == c.vals.length) && (c.rdrs.length == c.vals.length)) && decide (c.vals.length ≤ 20000)
theorem clLen_iff {c : Cl} : clLen c = true ↔ c.notes.length = c.vals.length ∧ c.rdrs.length = c.vals.length ∧ c.vals.length ≤ 20000 := by
 unfold clLen
 simp only [zA0, beq_iff_eq, dEt, and_assoc]
theorem clForm_at (c : Cl) : clForm c = true ↔ clLen c = true ∧ ∀ j, j < c.vals.length → clAt c j = true := by
 constructor
 · intro h
   have h2 := h
   unfold clForm at h2
   simp only [zA0, zAm] at h2
   obtain ⟨⟨⟨_, p1⟩, p2⟩, p3⟩ := h2
   obtain ⟨e1, e2, e3⟩ := clForm_iff h
   refine ⟨clLen_iff.2 ⟨e1, e2, e3⟩, fun j hj => ?_⟩
   have f : ∀ {α : Type} [Inhabited α] {q : α → Bool} {l : List α}, l.any q = false → j < l.length → q (l.getD j default) = false := fun {α} _ {q l} h hj => by
    cases hq : q (l.getD j default) with
    | false => rfl
    | true => rw [any_getD.2 ⟨j, hj, hq⟩] at h; cases h
   have a1 := f p1 (by omega)
   have a2 := f p2 (by omega)
   have a3 := f p3 hj
   unfold clAt
   rw [val12, a3]
   simp only [zAp] at a1 a2
   rw [a1, a2]; rfl
 · rintro ⟨h, hall⟩
   obtain ⟨e1, e2, e3⟩ := clLen_iff.1 h
   have f : ∀ {α : Type} [Inhabited α] {q : α → Bool} {l : List α}, (∀ j, j < l.length → q (l.getD j default) = false) → l.any q = false := fun {α} _ {q l} h => by
    cases hq : l.any q with
    | false => rfl
    | true =>
      obtain ⟨j, hj, h2⟩ := any_getD.1 hq
      rw [h j hj] at h2; cases h2
   unfold clForm
   rw [e1, e2]
   have g := fun j (hj : j < c.vals.length) => by
    have := hall j hj
    unfold clAt at this
    rw [val12] at this
    simp only [zA0] at this
    exact this
   rw [f (q := fun n => !Jo.isId n) (l := c.notes) (fun j hj => by rw [(g j (by omega)).1.2]; rfl), f (q := fun r => !Jo.isRdr r) (l := c.rdrs) (fun j hj => by rw [(g j (by omega)).1.1]; rfl), f (q := fun v => v != 1 && v != 2) (l := c.vals) (fun j hj => (zAm _) ▸ (g j hj).2)]
   simp only [bne_self_eq_false, Bool.not_false, zBl, zBm, zAm, dEf]
   omega
theorem part_seat0 {s : Score} (h : scoreOk s = true) {k : Nat} (hk : k < s.parts.length) {p : Part} (hp : s.parts.getD k default = p) : Jo.isId p.id = true ∧ p.desks ≤ 40 := by
 have h1 : partsOk s.parts = true := by
  unfold scoreOk scoreBad at h
  simp only [zA0, zAm, zAh, zAp] at h
  exact h.1.1.1.2
 have h2 := partsOk_all h1 p (by rw [← hp]; exact getD_mem hk)
 unfold partOk partBad partNums inB at h2
 simp only [zA0, zAm, zAh, zAp, dEt] at h2
 refine ⟨?_, by omega⟩
 unfold Jo.isId Jo.inR; simp; omega
def exOk (ex : List Int) : Bool := !ex.any fun n => !Jo.isId n
def formB (s : Score) (l : List Jo.Mark) (sec : Int) (ex : List Int) : Bool := ((scoreOk s && marksOk l) && (Jo.inR sec 0 99 && !decide ((ex.length : Int) > 20000))) && exOk ex
def clOf (g : List Bow) : Cl := ⟨g.map fun b => b.note.id, g.map fun b => b.val, g.map fun b => b.rdr⟩
def clashesR (s : Score) (l : List Jo.Mark) (sec : Int) (ex : List Int) : List (List Bow) × Int := if formB s l sec ex then (clashes s l sec ex, 0) else ([], 1)
section
variable {s : Score}
theorem psC_clOf (g : List Bow) : psC (clOf g) = g.map pairB := by
 unfold psC clOf pairB
 induction g with
 | nil => rfl
 | cons b g ih => rw [zAz, zAz, List.zip_cons_cons, ih, zAz]
theorem bow_id (hs : scoreOk s = true) {l : List Jo.Mark} {sec : Int} {ex : List Int} {b : Bow} (hb : b ∈ bowsL s l sec ex) : Jo.isId b.note.id = true := by
 obtain ⟨n, hn, e, _⟩ := seat_note (bow_seat hb)
 have e : b.note.id = n.id := e
 obtain ⟨h1, h2⟩ := note_in hs hn
 rw [e]
 unfold Jo.isId Jo.inR
 simp only [zA0, dEt]; omega
theorem bow_rdr (hs : scoreOk s = true) {l : List Jo.Mark} {sec : Int} {ex : List Int} {b : Bow} (hb : b ∈ bowsL s l sec ex) : Jo.isRdr b.rdr = true := by
 obtain ⟨p, hp, _, _, d, hd, e⟩ := mem_seats.1 (bow_seat hb)
 obtain ⟨k, hk, hk2⟩ := zAq.1 hp
 obtain ⟨h1, h2⟩ := part_seat0 hs hk (show s.parts.getD k default = p by rw [getD_lt hk]; exact hk2)
 rw [e]
 unfold rdrOf Jo.isRdr
 dsimp only
 rw [h1]
 unfold Jo.inR
 simp only [zBl, zA0, dEt]
 omega
theorem clash_in {s : Score} {l : List Jo.Mark} {sec : Int} {ex : List Int} {g : List Bow} (hg : g ∈ clashes s l sec ex) : ∃ k, g = grp (keyT s.bars) (bowsL s l sec ex) k ∧ differs g = true := by
 unfold clashes clashL at hg
 obtain ⟨k, _, e, hd⟩ := mem_clash.1 hg
 exact ⟨k, e, hd⟩
theorem clash_ok (hs : scoreOk s = true) {l : List Jo.Mark} (hm : marksOk l = true) {sec : Int} {ex : List Int} (hl : (bowsL s l sec ex).length ≤ 20000) {g : List Bow} (hg : g ∈ clashes s l sec ex) : clOk (clOf g) = true := by
 obtain ⟨k, e, hd⟩ := clash_in hg
 have hin : ∀ b ∈ g, b ∈ bowsL s l sec ex := fun b hb => by
  rw [e] at hb
  exact (mem_grp.1 hb).1
 have hgl : g.length ≤ 20000 := by
  rw [e]; unfold grp
  exact zBb (zB2 _ _) hl
 have l1 : (clOf g).notes.length = g.length := lLm ..
 have l2 : (clOf g).vals.length = g.length := lLm ..
 have l3 : (clOf g).rdrs.length = g.length := lLm ..
 unfold clOk
 rw [zA0, zA0]
 refine ⟨(clForm_at _).2 ⟨clLen_iff.2 ⟨by omega, by omega, by omega⟩, fun j hj => ?_⟩, ?_⟩
 · rw [l2] at hj
   have hb := hin _ (getD_mem hj)
   have f : ∀ {β : Type} [Inhabited β] (q : Bow → β), (g.map q).getD j default = q (g.getD j default) := fun {β} _ q => by
    rw [getD_lt (by rw [lLm]; exact hj), getD_lt hj, zCo]
   unfold clAt clOf
   dsimp only
   rw [f, f, f, bow_rdr hs hb, bow_id hs hb, val12]
   rcases bow_val hm hb with h | h <;> rw [h] <;> rfl
 · obtain ⟨a, ha, b, hb, hne⟩ := differs_iff.1 hd
   have va := bow_val hm (hin a ha)
   have vb := bow_val hm (hin b hb)
   have f : ∀ c ∈ g, hasI (clOf g).vals c.val = true := fun c hc => hasI_iff.2 (zAi.2 ⟨c, hc, rfl⟩)
   have fa := f a ha
   have fb := f b hb
   rcases va with h1 | h1 <;> rcases vb with h2 | h2
   · omega
   · rw [h1] at fa; rw [h2] at fb; exact ⟨fa, fb⟩
   · rw [h1] at fa; rw [h2] at fb; exact ⟨fb, fa⟩
   · omega
theorem sel_head (c : Cl) : ∃ r, selC c = (if (oth (psC c) 1).length ≤ (oth (psC c) 2).length then 1 else 2) :: r := by
 unfold selC leastC
 rcases Nat.lt_trichotomy (oth (psC c) 1).length (oth (psC c) 2).length with h | h | h
 · rw [if_pos (by omega)]
   refine ⟨[], ?_⟩
   rw [zB3 (by simp; omega), zB8 (by simp; omega), zC0]
 · rw [if_pos (by omega)]
   refine ⟨[2], ?_⟩
   rw [zB3 (by simp; omega), zB3 (by simp; omega), zC0]
 · rw [if_neg (by omega)]
   refine ⟨[], ?_⟩
   rw [zB8 (by simp; omega), zB3 (by simp; omega), zC0]
theorem sel_chose (g : List Bow) : ∃ r, selC (clOf g) = chose (g.map pairB) :: r := by
 obtain ⟨r, h⟩ := sel_head (clOf g)
 rw [psC_clOf] at h
 exact ⟨r, h⟩
theorem fixG_eq (g : List Bow) : fixG g = (oth (psC (clOf g)) (chose (g.map pairB))).map fun n => (n, chose (g.map pairB)) := by rw [psC_clOf]; rfl
theorem fixG_len (g : List Bow) : (fixG g).length ≤ g.length := by
 unfold fixG
 rw [lLm]
 have := oth_len (chose (g.map pairB)) (g.map pairB)
 rwa [lLm] at this
theorem clashes_len (s : Score) (l : List Jo.Mark) (sec : Int) (ex : List Int) : (clashes s l sec ex).length ≤ (bowsL s l sec ex).length := by
 unfold clashes clashL clashG
 refine zBb (zB2 _ _) ?_
 rw [lLm]
 unfold keysB
 rw [lLm]
 have := kinds_len (keyT s.bars) ((bowsL s l sec ex).map (·.note))
 rwa [lLm] at this
def bigR (n c : Nat) (id : Int) : Bool := decide (((n + c : Nat) : Int) > 20000) || decide (id + c - 1 > 1000000)
def restoreR (s : Score) (l : List Jo.Mark) (sec : Int) (ex : List Int) (id : Int) : (List Jo.Mark × Int) × Int :=
 if formB s l sec ex then
  if (!Jo.isId id || l.any fun m => decide (m.id ≥ id)) then (([], 0), 1)
  else if bigR l.length (fixL (clashes s l sec ex)).length id then (([], 0), 2)
  else ((resL s.version sec l id (fixL (clashes s l sec ex)), (fixL (clashes s l sec ex)).length), 0)
 else (([], 0), 1)
theorem fixL_take {cs : List (List Bow)} {k : Nat} (h : k < cs.length) {g : List Bow} (hg : cs.getD k default = g) : fixL (cs.take (k + 1)) = fixL (cs.take k) ++ fixG g := by
 unfold fixL
 rw [takeS' h, hg, zC2]
 simp
theorem news_snoc (v sec : Int) (l : List Jo.Mark) (fx : List (Int × Int)) (id n w : Int) : newsL v sec l id (fx ++ [(n, w)]) = newsL v sec l id fx ++ [newM v sec l (id + fx.length) n w] := by
 rw [news_append]; rfl
end
theorem clOf_sized {g : List Bow} (h : g.length ≤ 1000000) : (clOf g).Sized := by
 have l1 : (clOf g).notes.length = g.length := lLm ..
 have l2 : (clOf g).vals.length = g.length := lLm ..
 have l3 : (clOf g).rdrs.length = g.length := lLm ..
 exact ⟨by omega, by omega, by omega⟩
theorem bows_nil (s : Score) (sec : Int) (ex : List Int) : bowsL s [] sec ex = [] := by
 cases h : bowsL s [] sec ex with
 | nil => rfl
 | cons b r =>
   have hb : b ∈ bowsL s [] sec ex := by rw [h]; exact zAo ..
   obtain ⟨_, h2, h3, _⟩ := mem_bows.1 hb
   rw [h2] at h3
   exact absurd h3 (by show ¬ (0 : Int) < 0; decide)
theorem clashes_nil0 (s : Score) (sec : Int) (ex : List Int) : clashes s [] sec ex = [] := by
 have h := clashes_len s [] sec ex
 rw [bows_nil] at h
 exact zB0 (Nat.le_zero.1 h)
theorem grp_len {s : Score} {l : List Jo.Mark} {sec : Int} {ex : List Int} {g : List Bow} (hg : g ∈ clashes s l sec ex) : g.length ≤ (bowsL s l sec ex).length := by
 obtain ⟨k, e, _⟩ := clash_in hg
 rw [e]; unfold grp
 exact zB2 _ _
theorem flat_le {α β : Type} {f : α → List β} {m : Nat} : ∀ {l : List α}, (∀ a ∈ l, (f a).length ≤ m) → (l.flatMap f).length ≤ m * l.length
 | [], _ => by simp
 | a :: l, h => by
   have h1 := h a (zAo ..)
   have h2 := flat_le (f := f) (l := l) fun b hb => h b (zAv _ hb)
   rw [zD1, lLa, zA5, Nat.mul_succ]; omega
theorem fix_le {s : Score} {l : List Jo.Mark} {sec : Int} {ex : List Int} (hb : (bowsL s l sec ex).length ≤ 20000) (k : Nat) : (fixL ((clashes s l sec ex).take k)).length ≤ 20000 * 20000 := by
 have h1 : (fixL ((clashes s l sec ex).take k)).length ≤ 20000 * ((clashes s l sec ex).take k).length := flat_le fun g hg => by
  have h2 := fixG_len g
  have h3 := grp_len (zDd hg)
  omega
 have h4 := clashes_len s l sec ex
 have h5 : ((clashes s l sec ex).take k).length ≤ (clashes s l sec ex).length := by rw [zAc]; omega
 omega
theorem news_take {v sec : Int} {l : List Jo.Mark} {id : Int} {F : List (Int × Int)} {o : List Int} {w : Int} {j : Nat} (h : j < o.length) {n : Int} (hn : o.getD j default = n) :
 newsL v sec l id (F ++ (o.take (j + 1)).map fun n => (n, w)) = newsL v sec l id (F ++ (o.take j).map fun n => (n, w)) ++ [newM v sec l (id + (F.length + j : Nat)) n w] := by
 rw [takeS' h, hn, zAe, zAz, zD9, ← zAt, news_snoc, lLa, lLm, zAc, Nat.min_eq_left (Nat.le_of_lt h)]
theorem bows_few {s : Score} (hs : scoreOk s = true) (hp : s.parts.length ≤ 8) (hn : s.notes.length ≤ 40) (l : List Jo.Mark) (sec : Int) (ex : List Int) : (bowsL s l sec ex).length ≤ 12800 := by
 have h1 : ∀ p ∈ s.parts.filter (fun p => p.section_ == sec), (seatsP s p).length ≤ 1600 := fun p hp => by
  obtain ⟨hp1, _⟩ := zBn.1 hp
  obtain ⟨k, hk, hk2⟩ := zAq.1 hp1
  obtain ⟨_, h2⟩ := part_seat0 hs hk (show s.parts.getD k default = p by rw [getD_lt hk]; exact hk2)
  have h3 : (seatsP s p).length ≤ 40 * (List.range p.desks.toNat).length := flat_le fun d _ => by
   unfold seatsD
   rw [lLm]
   unfold playedL
   rw [lLm]
   exact zBb (zB2 _ _) hn
  rw [zDb] at h3
  omega
 have h4 : (seatsL s sec).length ≤ 1600 * (s.parts.filter (fun p => p.section_ == sec)).length := flat_le h1
 have h5 : (s.parts.filter (fun p => p.section_ == sec)).length ≤ s.parts.length := zB2 _ _
 have h6 : (bowsL s l sec ex).length ≤ (seatsL s sec).length := List.length_filterMap_le _ _
 omega
end Go.Proofs.YtficfljjnbnhbaaGreatDoor.Bw
