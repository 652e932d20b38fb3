/- Place in plain words: the laws. No program is in sight. No statement is proved here. -/
import Derived.Test.YtdglbdfdkabjfaaGreatDoorP22
import Derived.Test.YtdglbdfdkabjfaaGreatDoorP23
import Derived.Test.YtdglbdfdkabjfaaGreatDoorP25
set_option linter.unusedVariables false
set_option linter.unusedSimpArgs false
namespace Go.Proofs.YtdglbdfdkabjfaaGreatDoor.Pl
open Go.Ab Go.Pl
attribute [local irreducible] AWP AOps EStep AQ PStep PRun PCall TCall VCall
theorem dur_q {a : Rat} (ha : durOk a = true) : 1 ≤ a.d ∧ a.d * Int.tdiv 1680 a.d = 1680 := by
 obtain ⟨a1, a2, a3⟩ := durOk_iff.1 ha
 have c1 := ratOk_iff.1 a1
 exact ⟨c1.1, by have := Int.mul_tdiv_add_tmod 1680 a.d; omega⟩
theorem ticks_lt {a b : Rat} (ha : durOk a = true) (hb : durOk b = true) : ticksV a < ticksV b ↔ a.n * b.d < b.n * a.d := by
 obtain ⟨a1, e1⟩ := dur_q ha
 obtain ⟨b1, e2⟩ := dur_q hb
 obtain ⟨an, ad⟩ := a
 obtain ⟨bn, bd⟩ := b
 dsimp only at *
 unfold ticksV
 dsimp only
 generalize Int.tdiv 1680 ad = q at *
 generalize Int.tdiv 1680 bd = r at *
 have hp : 0 < ad * bd := Int.mul_pos (by omega) (by omega)
 have l : an * q * (ad * bd) = (an * bd) * 1680 := by
  calc an * q * (ad * bd) = (an * bd) * (ad * q) := by ac_rfl
   _ = _ := by rw [e1]
 have l2 : bn * r * (ad * bd) = (bn * ad) * 1680 := by
  calc bn * r * (ad * bd) = (bn * ad) * (bd * r) := by ac_rfl
   _ = _ := by rw [e2]
 constructor
 · intro h
   have h2 := Int.mul_lt_mul_of_pos_right h hp
   rw [l, l2] at h2; omega
 · intro h
   refine Int.lt_of_mul_lt_mul_right (a := ad * bd) ?_ (Int.le_of_lt hp)
   rw [l, l2]; omega
theorem under_ticks {a b : Rat} (ha : durOk a = true) (hb : durOk b = true) : under a b = decide (ticksX a < ticksX b) := by
 obtain ⟨a1, _, _⟩ := durOk_iff.1 ha
 obtain ⟨b1, _, _⟩ := durOk_iff.1 hb
 have e1 : ticksX a = ticksV a := by unfold ticksX; rw [if_pos ha]
 have e2 : ticksX b = ticksV b := by unfold ticksX; rw [if_pos hb]
 rw [e1, e2, decide_eq_decide.2 (ticks_lt ha hb)]
 unfold under ratCmp
 rw [a1, b1, zBd, if_pos rfl]
 by_cases h : a.n * b.d < b.n * a.d
 · rw [if_pos h, decide_eq_true h]; rfl
 · rw [if_neg h, decide_eq_false h]
   split <;> rfl
theorem under24 {a : Rat} (ha : durOk a = true) (h : ticksV a < 40320) : a.n < 24 * a.d := by
 obtain ⟨a1, e1⟩ := dur_q ha
 obtain ⟨an, ad⟩ := a
 dsimp only at *
 unfold ticksV at h
 dsimp only at h
 generalize Int.tdiv 1680 ad = q at *
 have hq : 0 < q := by
  rcases Int.lt_or_le 0 q with h1 | h1
  · exact h1
  · have := Int.mul_nonpos_of_nonneg_of_nonpos (a := ad) (b := q) (by omega) h1; omega
 refine Int.lt_of_mul_lt_mul_right (a := q) ?_ (Int.le_of_lt hq)
 have : 24 * ad * q = 24 * (ad * q) := Int.mul_assoc ..
 rw [this, e1]; omega
theorem reason_zero {s : Score} {r : Room} {m : Mom} (hs : scoreOk s = true) (hd : durOk m.pos = true) (h : reason s r m = 0) :
 ∃ i : Nat, barAt s.bars m.bar = i ∧ i < s.bars.length ∧ ticksX m.pos < ticksX (s.bars.getD i default).len ∧ m.pos.n < 24 * m.pos.d ∧ (⟨i, m.pass⟩ : PVis) ∈ visits r.form := by
 unfold reason at h
 by_cases h0 : barAt s.bars m.bar < 0
 · rw [if_pos h0] at h; cases h
 rw [if_neg h0] at h
 obtain ⟨i, hi⟩ : ∃ i : Nat, barAt s.bars m.bar = i := ⟨(barAt s.bars m.bar).toNat, by omega⟩
 have hil := (barAt_in s.bars m.bar).2
 rw [hi] at h hil
 rw [zAa] at h
 have hil : i < s.bars.length := by omega
 obtain ⟨b1, b2, b3⟩ := bar_ticks hs hil
 rw [under_ticks hd b1] at h
 by_cases h1 : ticksX m.pos < ticksX (s.bars.getD i default).len
 · rw [decide_eq_true h1, if_neg (by decide)] at h
   have hv : force r.form ⟨i, m.pass⟩ = .yes := by
    cases hf : force r.form ⟨i, m.pass⟩ with
    | yes => rfl
    | cut => rw [hf] at h; cases h
    | never => rw [hf] at h; cases h
   refine ⟨i, hi, hil, h1, under24 hd ?_, force_yes.1 hv⟩
   have e1 : ticksX m.pos = ticksV m.pos := by unfold ticksX; rw [if_pos hd]
   rw [e1] at h1; omega
 · rw [decide_eq_false h1, if_pos rfl] at h; cases h
theorem reason_of {s : Score} {r : Room} {m : Mom} (hs : scoreOk s = true) (hd : durOk m.pos = true) {i : Nat} (hi : barAt s.bars m.bar = i) (hil : i < s.bars.length) (h1 : ticksX m.pos < ticksX (s.bars.getD i default).len) (hv : (⟨i, m.pass⟩ : PVis) ∈ visits r.form) : reason s r m = 0 := by
 obtain ⟨b1, b2, b3⟩ := bar_ticks hs hil
 unfold reason
 rw [hi, if_neg (by omega), zAa, under_ticks hd b1, decide_eq_true h1, if_neg (by decide), force_yes.2 hv]; rfl
theorem reason_ne {s : Score} {r : Room} {m : Mom} : reason s r m ≠ 1 ∧ reason s r m ≠ 2 := by
 unfold reason
 split
 · decide
 · split
   · decide
   · cases force r.form ⟨barAt s.bars m.bar, m.pass⟩ <;> decide
theorem score_ids {s : Score} (h : scoreOk s = true) : (s.bars.map fun b : Bar => b.id).Nodup := by
 unfold scoreOk scoreBad at h
 simp only [zA0, zB8, zAk, zB7] at h
 have hbar : barsOk s.bars = true := h.1.1.1.1.2
 unfold barsOk at hbar
 simp only [zA0, dEt] at hbar
 exact hbar.1.1.2
theorem barAt_id {s : Score} (h : scoreOk s = true) {i : Nat} (hi : i < s.bars.length) : barAt s.bars (s.bars.getD i default).id = i := by
 refine findI_at hi (by simp) fun j hj => ?_
 have hd := score_ids h
 simp only [beq_eq_false_iff_ne, ne_eq]
 intro e
 have := zBr.1 hd j i (by simp; omega) (by simpa using hi) hj
 rw [getD_lt (by omega : j < s.bars.length), getD_lt hi] at e
 simp at this
 exact this e
theorem drop_at1 {α : Type} [Inhabited α] {l : List α} {k : Nat} (h : k < l.length) : l.drop k = l.getD k default :: l.drop (k + 1) := by
 rw [getD_lt h, zBf h]
theorem count_one {α : Type} [Inhabited α] {p : α → Bool} {l : List α} {k : Nat} (hk : k < l.length) (hp : p (l.getD k default) = true) (hc : l.countP p = 1) : ∀ j, j < l.length → j ≠ k → p (l.getD j default) = false := by
 have e : l.countP p = (l.take k).countP p + (1 + (l.drop (k + 1)).countP p) := by
  conv => lhs; rw [← zD2 k l, drop_at1 hk, List.countP_append, List.countP_cons_of_pos hp]
  omega
 have h1 : (l.take k).countP p = 0 := by omega
 have h2 : (l.drop (k + 1)).countP p = 0 := by omega
 rw [List.countP_eq_zero] at h1 h2
 intro j hj hne
 rw [getD_lt hj]
 rcases Nat.lt_or_gt_of_ne hne with h | h
 · have := h1 l[j] (List.mem_take_iff_getElem.2 ⟨j, by omega, rfl⟩)
   simpa using this
 · have := h2 l[j] (List.mem_drop_iff_getElem.2 ⟨j - (k + 1), by omega, by congr 1; omega⟩)
   simpa using this
theorem numR_once {e : Ed.Edition} (hf : Ed.formB e = true) {k : Nat} (hk : k < e.bars.length) (h : onceP e k = true) (hn : inB (e.bars.getD k default).number 0 100000 = true) : Ed.numR e (e.bars.getD k default).number = ((k : Int), 0) := by
 unfold onceP timesN at h
 rw [zAa] at h
 have hall := count_one (p := Ed.numP (e.bars.getD k default).number) hk (by unfold Ed.numP; simp) (by simpa using h)
 have h1 : Ed.numI e (e.bars.getD k default).number = k := findI_at hk (by unfold Ed.numP; simp) fun j hj => hall j (by omega) (by omega)
 have h2 := Ed.findI_drop_no (p := Ed.numP (e.bars.getD k default).number) (l := e.bars) (i := k) fun j hj hlt => hall j hj (by omega)
 unfold Ed.numR
 rw [hf, hn, if_pos (show (true && true) = true from rfl), h1, if_neg (by omega)]
 rw [show ((k : Int) + 1).toNat = k + 1 by omega, if_neg (by omega)]
theorem right_parts {s : Score} {e : Ed.Edition} {r : Room} (h : rightB s e r = true) : scoreOk s = true ∧ Ed.formB e = true ∧ formOk r.form = true ∧ r.form.bars = (s.bars.length : Int) ∧ r.version = s.version := by
 unfold rightB roomB at h
 simp only [zA0, beq_iff_eq] at h
 exact ⟨h.1.1, h.1.2, h.2.2, h.2.1.2, h.2.1.1⟩
theorem bars_all {e : Ed.Edition} (hf : Ed.formB e = true) {k : Nat} (hk : k < e.bars.length) : inB (e.bars.getD k default).number 0 100000 = true ∧ inB (e.bars.getD k default).bar 1 1000000 = true ∧ inB (e.bars.getD k default).pass 0 9 = true := by
 unfold Ed.formB at hf
 simp only [zA0, zA6] at hf
 have := hf.1.2 _ (getD_in hk)
 unfold Ed.barOk at this
 simp only [zA0] at this
 exact ⟨this.1.1, this.1.2, this.2⟩
theorem form_small {e : Ed.Edition} (hf : Ed.formB e = true) : e.bars.length ≤ 4000 := form_len hf
theorem inB_iff {a lo hi : Int} : inB a lo hi = true ↔ lo ≤ a ∧ a ≤ hi := by
 unfold inB
 simp only [zA0, dEt]
theorem nameB_pos {nm : ByteArray} (h : Ed.nameB nm = true) : 1 ≤ nm.size ∧ nm.size ≤ 12 := by
 unfold Ed.nameB at h
 simp only [zA0, dEt] at h
 exact ⟨h.1.1, h.1.2⟩
theorem named_of {e : Ed.Edition} (hf : Ed.formB e = true) {i : Int} {x : Nm} (hx : NmOk e i x) (b : Int) (q : Rat) (p : Int) :
 named e ⟨x.letter, x.number, b, q, p⟩ = (x.pos, 0) ∧ placeOk ⟨x.letter, x.number, b, q, p⟩ = true ∧ x.letter.size ≤ 12 := by
 obtain ⟨⟨a1, a2⟩, _, hn⟩ := hx
 obtain ⟨nl, nn, np⟩ := x
 dsimp only at *
 rcases hn with ⟨j, hj, h1, h2, h3⟩ | ⟨h1, h2, h3⟩
 · subst h1 h2 h3
   have hl := letOk_at hf hj
   have hnm : Ed.nameB (e.letters.getD j default).name = true := by
    unfold Ed.letOk at hl
    simp only [zA0] at hl
    exact hl.1.1
   have hp := nameB_pos hnm
   refine ⟨?_, ?_, hp.2⟩
   · unfold named
     rw [if_pos (show (e.letters.getD j default).name.size ≠ 0 by omega)]
     show Ed.letR e (e.letters.getD j default).name = _
     rw [Ed.letR_eq hf hnm, Ed.letI_of hf hj, if_neg (by omega), zAa]
   · unfold placeOk
     dsimp only
     rw [hnm]; simp
 · subst h1 h2
   obtain ⟨k, rfl⟩ := zAy a1
   have hk : k < e.bars.length := by omega
   have hb := (bars_all hf hk).1
   refine ⟨?_, ?_, by decide⟩
   · unfold named
     rw [if_neg (show ¬ (⟨#[]⟩ : ByteArray).size ≠ 0 by decide)]
     show Ed.numR e (e.bars.getD k default).number = _
     exact numR_once hf hk h3 hb
   · unfold placeOk
     show ((true && inB (e.bars.getD k default).number 0 100000) || _) = true
     rw [hb]; rfl
theorem locate_ok {s : Score} {e : Ed.Edition} {r : Room} {m : Mom} (h : rightB s e r = true) (hm : momOk m = true) (hr : reason s r m = 0) :
 locate s e r m = (noCall, false, 0) ∨ ∃ c, locate s e r m = (c, true, 0) ∧ callOk c = true ∧ resolve s e r c = (m, 0) ∧ c.letter.size ≤ 12 := by
 obtain ⟨hs, hf, hform, hbars, _⟩ := right_parts h
 have hm2 := hm
 unfold momOk at hm2
 simp only [zA0] at hm2
 obtain ⟨⟨hd, hb1⟩, hp1⟩ := hm2
 obtain ⟨_, _, _, _, h24, _⟩ := reason_zero hs hd hr
 have e1 : locate s e r m = if (Ed.plR e m.bar m.pass).ok = false then (noCall, false, (0 : Int))
  else match near e (Ed.plR e m.bar m.pass).pos with
   | none => (noCall, false, 0)
   | some x => (⟨x.letter, x.number, (Ed.plR e m.bar m.pass).pos - x.pos, m.pos, (Ed.plR e m.bar m.pass).pass⟩, true, 0) := by
  unfold locate
  rw [h, hm, hr, if_neg (by decide), if_neg (by decide)]
  rfl
 rw [e1]
 by_cases hp : (Ed.plR e m.bar m.pass).ok = false
 · rw [if_pos hp]; exact .inl rfl
 rw [if_neg hp]
 have e2 : Ed.plR e m.bar m.pass = if Ed.plI e m.bar m.pass < 0 then ⟨0, 0, false, 0⟩ else ⟨Ed.plI e m.bar m.pass, if (e.bars.getD (Ed.plI e m.bar m.pass).toNat default).pass == 0 && decide (m.pass > 1) then m.pass else 0, true, 0⟩ := by
  unfold Ed.plR
  rw [hf, hb1, hp1]; rfl
 by_cases hneg : Ed.plI e m.bar m.pass < 0
 · rw [e2, if_pos hneg] at hp
   exact absurd rfl hp
 rw [if_neg hneg] at e2
 obtain ⟨i, hi, hil, hat, _⟩ := findI_lt (p := Ed.plP m.bar m.pass) (l := e.bars) (show 0 ≤ findI (Ed.plP m.bar m.pass) e.bars by have : ¬ findI (Ed.plP m.bar m.pass) e.bars < 0 := hneg; omega)
 have hi2 : Ed.plI e m.bar m.pass = i := hi
 rw [hi2, zAa] at e2
 rw [e2]
 dsimp only
 obtain ⟨B, hB⟩ : ∃ B, e.bars.getD i default = B := ⟨_, rfl⟩
 rw [hB] at hat ⊢
 obtain ⟨w1, w2, w3⟩ := bars_all hf hil
 rw [hB] at w1 w2 w3
 unfold Ed.plP at hat
 simp only [zA0, zB6, beq_iff_eq] at hat
 obtain ⟨hbar, hpass⟩ := hat
 cases hnear : near e (i : Int) with
 | none => exact .inl rfl
 | some x =>
   refine .inr ⟨_, rfl, ?_⟩
   dsimp only
   have hx : NmOk e i x := by
    refine near_ok hf ⟨by omega, by omega⟩ ?_
    unfold near at hnear
    obtain ⟨y, hy, hyx⟩ := List.exists_of_findSome?_eq_some hnear
    have : y = some x := hyx
    exact this ▸ hy
   obtain ⟨n1, n2, n3⟩ := named_of hf hx ((i : Int) - x.pos) m.pos (if B.pass == 0 && decide (m.pass > 1) then m.pass else 0)
   obtain ⟨f1, f2⟩ := hx.far
   have hpin := inB_iff.1 hp1
   have w3' := inB_iff.1 w3
   have hpi : inB (if B.pass == 0 && decide (m.pass > 1) then m.pass else 0) 0 20000 = true := by
    rw [inB_iff]
    split <;> omega
   have hc : callOk ⟨x.letter, x.number, (i : Int) - x.pos, m.pos, if B.pass == 0 && decide (m.pass > 1) then m.pass else 0⟩ = true := by
    unfold callOk
    dsimp only
    rw [n2, hd, decide_eq_true h24, hpi, inB_iff.2 (by omega : (-1000 : Int) ≤ (i : Int) - x.pos ∧ (i : Int) - x.pos ≤ 1000)]; rfl
   refine ⟨hc, ?_, n3⟩
   have e3 : Ed.viR e (x.pos + ((i : Int) - x.pos)) (if B.pass == 0 && decide (m.pass > 1) then m.pass else 0) = ⟨m.bar, m.pass, 0⟩ := by
    rw [show x.pos + ((i : Int) - x.pos) = (i : Int) by omega]
    unfold Ed.viR
    rw [hf, hpi, inB_iff.2 (by omega : (0 : Int) ≤ (i : Int) ∧ (i : Int) ≤ (e.bars.length : Int) - 1), if_pos (show (true && true && true) = true from rfl), zAa, hB, hbar]
    by_cases hz : B.pass = 0
    · rw [if_pos hz, hz]
      congr 1
      by_cases h1 : m.pass > 1
      · rw [decide_eq_true h1, if_pos (by rfl)]; omega
      · rw [decide_eq_false h1, if_neg (by decide)]; omega
    · rw [if_neg hz]
      have hz2 : (B.pass == 0) = false := by simpa using hz
      rw [hz2, zBq, if_neg (by simp)]
      congr 1
      omega
   unfold resolve
   rw [h, hc, n1]
   dsimp only
   rw [e3]
   dsimp only
   rw [if_neg (by decide), if_neg (by decide), decide_eq_true (by omega : 0 ≤ x.pos + ((i : Int) - x.pos)), decide_eq_true (by omega : x.pos + ((i : Int) - x.pos) < (e.bars.length : Int)), if_neg (by decide), if_neg (by decide), hr, if_neg (by decide)]
theorem momJ_ok {s : Score} {r : Room} (hs : scoreOk s = true) (hform : formOk r.form = true) (hbars : r.form.bars = (s.bars.length : Int)) {w a : Int} (ha : 0 ≤ a ∧ a ≤ 65535) (h : (momJ s r w a).2 = true) :
 momOk (momJ s r w a).1 = true ∧ reason s r (momJ s r w a).1 = 0 := by
 unfold momJ at h ⊢
 by_cases hv : visits r.form = []
 · rw [if_pos hv] at h; cases h
 rw [if_neg hv] at h ⊢
 have hn : 0 < (visits r.form).length := zDa.2 hv
 obtain ⟨V, hV⟩ : ∃ V, (visits r.form).getD (w.toNat % (visits r.form).length) default = V := ⟨_, rfl⟩
 have hVm : V ∈ visits r.form := hV ▸ getD_in (zCv _ hn)
 obtain ⟨⟨v1, v2⟩, v3, v4⟩ := vis_in hform hVm
 rw [hV]
 obtain ⟨vb, vp⟩ := V
 dsimp only at *
 obtain ⟨i, rfl⟩ := zAy v1
 have hil : i < s.bars.length := by omega
 rw [zAa]
 obtain ⟨b1, b2, b3⟩ := bar_ticks hs hil
 have hat := barAt_id hs hil
 have hid := (bar_in hs (id := (s.bars.getD i default).id) (by rw [hat]; omega)).1
 obtain ⟨T, hT⟩ : ∃ T, ticksX (s.bars.getD i default).len = T := ⟨_, rfl⟩
 rw [hT] at b2 b3 ⊢
 have hr2 : 0 ≤ a.tmod T ∧ a.tmod T < T := by
  rw [zCd ha.1]
  exact ⟨Int.emod_nonneg a (by omega), Int.emod_lt_of_pos a (by omega)⟩
 obtain ⟨q1, q2⟩ := ticksQ (n := a.tmod T) ⟨by omega, by omega⟩
 have q3 : ticksX (ratQ (a.tmod T)) = a.tmod T := by unfold ticksX; rw [if_pos q1, q2]
 refine ⟨?_, reason_of hs q1 hat hil (by rw [hT]; show ticksX (ratQ (a.tmod T)) < T; rw [q3]; omega) hVm⟩
 unfold momOk
 dsimp only
 rw [q1, hid, inB_iff.2 ⟨v3, v4⟩]; rfl
theorem call_parts {c : Call} (h : callOk c = true) : placeOk c = true ∧ durOk c.beat = true ∧ (-1000 ≤ c.bars ∧ c.bars ≤ 1000) ∧ inB c.pass 0 20000 = true := by
 unfold callOk at h
 simp only [zA0] at h
 exact ⟨h.1.1.1, h.1.1.2.1, inB_iff.1 h.1.2, h.2⟩
theorem named_ne {e : Ed.Edition} {c : Call} (hf : Ed.formB e = true) (hc : placeOk c = true) : (named e c).2 ≠ 1 ∧ (named e c).2 ≠ 2 := by
 unfold placeOk at hc
 unfold named
 by_cases h0 : c.letter.size ≠ 0
 · rw [if_pos h0]
   have hn : Ed.nameB c.letter = true := by
    have : (c.letter.size == 0) = false := by simpa using h0
    rw [this] at hc
    simp only [zBq, zD5, zA0] at hc
    exact hc.1
   rw [Ed.letR_eq hf hn]
   split
   · exact ⟨by decide, by decide⟩
   · exact ⟨show (0 : Int) ≠ 1 by decide, show (0 : Int) ≠ 2 by decide⟩
 · rw [if_neg h0]
   have hn : inB c.number 0 100000 = true := by
    simp only [zB6, zA0, beq_iff_eq] at hc
    rcases hc with hc | hc
    · exact hc.2
    · rw [hc.2]; rfl
   unfold Ed.numR
   rw [hf, hn, if_pos (by rfl)]
   split
   · exact ⟨show (4 : Int) ≠ 1 by decide, show (4 : Int) ≠ 2 by decide⟩
   · split
     · exact ⟨show (5 : Int) ≠ 1 by decide, show (5 : Int) ≠ 2 by decide⟩
     · exact ⟨show (0 : Int) ≠ 1 by decide, show (0 : Int) ≠ 2 by decide⟩
theorem viR_ne {e : Ed.Edition} (hf : Ed.formB e = true) {i p : Int} (hi : 0 ≤ i ∧ i < (e.bars.length : Int)) (hp : inB p 0 20000 = true) :
 ((Ed.viR e i p).err ≠ 1 ∧ (Ed.viR e i p).err ≠ 2) ∧ ((Ed.viR e i p).err = 0 → (Ed.viR e i p).bar = (e.bars.getD i.toNat default).bar ∧ inB (Ed.viR e i p).bar 1 1000000 = true ∧ inB (Ed.viR e i p).pass 1 20000 = true) := by
 obtain ⟨k, rfl⟩ := zAy hi.1
 have hk : k < e.bars.length := by omega
 obtain ⟨w1, w2, w3⟩ := bars_all hf hk
 have p1 := inB_iff.1 hp
 have p3 := inB_iff.1 w3
 unfold Ed.viR
 rw [hf, hp, inB_iff.2 (by omega : (0 : Int) ≤ (k : Int) ∧ (k : Int) ≤ (e.bars.length : Int) - 1), if_pos (show (true && true && true) = true from rfl), zAa]
 by_cases h1 : (e.bars.getD k default).pass = 0
 · rw [if_pos h1]
   exact ⟨⟨by simp, by simp⟩, fun _ => ⟨rfl, w2, inB_iff.2 (by dsimp only; omega)⟩⟩
 · rw [if_neg h1]
   split
   · exact ⟨⟨by simp, by simp⟩, fun h => by simp at h⟩
   · exact ⟨⟨by simp, by simp⟩, fun _ => ⟨rfl, w2, inB_iff.2 (by dsimp only; omega)⟩⟩
def goal (s : Score) (e : Ed.Edition) (r : Room) (c : Call) : Mom × Int :=
 if (rightB s e r && callOk c) = false then (noMom, 1)
 else if (named e c).2 ≠ 0 then (noMom, (named e c).2)
 else if (decide (0 ≤ (named e c).1 + c.bars) && decide ((named e c).1 + c.bars < (e.bars.length : Int))) = false then (noMom, 21)
 else if (Ed.viR e ((named e c).1 + c.bars) c.pass).err ≠ 0 then (noMom, (Ed.viR e ((named e c).1 + c.bars) c.pass).err)
 else (⟨(Ed.viR e ((named e c).1 + c.bars) c.pass).bar, (Ed.viR e ((named e c).1 + c.bars) c.pass).pass, c.beat⟩, 0)
theorem resolve_goal (s : Score) (e : Ed.Edition) (r : Room) (c : Call) : resolve s e r c = if (goal s e r c).2 ≠ 0 then goal s e r c else if reason s r (goal s e r c).1 ≠ 0 then (noMom, reason s r (goal s e r c).1) else goal s e r c := by
 unfold resolve goal
 by_cases h1 : (rightB s e r && callOk c) = false
 · rw [if_pos h1, if_pos h1, if_pos (by decide)]
 rw [if_neg h1, if_neg h1]
 by_cases h2 : (named e c).2 ≠ 0
 · rw [if_pos h2, if_pos h2, if_pos h2]
 rw [if_neg h2, if_neg h2]
 by_cases h3 : (decide (0 ≤ (named e c).1 + c.bars) && decide ((named e c).1 + c.bars < (e.bars.length : Int))) = false
 · rw [if_pos h3, if_pos h3, if_pos (by decide)]
 rw [if_neg h3, if_neg h3]
 by_cases h4 : (Ed.viR e ((named e c).1 + c.bars) c.pass).err ≠ 0
 · rw [if_pos h4, if_pos h4, if_pos h4]
 rw [if_neg h4, if_neg h4]
 dsimp only
 rw [if_neg (show ¬ (0 : Int) ≠ 0 by decide)]
theorem goal_in {s : Score} {e : Ed.Edition} {r : Room} {c : Call} (h : (goal s e r c).2 = 0) :
 rightB s e r = true ∧ callOk c = true ∧ (goal s e r c).1.pos = c.beat ∧ momOk (goal s e r c).1 = true ∧ ∃ i : Nat, i < e.bars.length ∧ (e.bars.getD i default).bar = (goal s e r c).1.bar := by
 unfold goal at h ⊢
 by_cases h1 : (rightB s e r && callOk c) = false
 · rw [if_pos h1] at h; cases h
 rw [if_neg h1] at h ⊢
 have h1' : rightB s e r = true ∧ callOk c = true := by simpa using h1
 obtain ⟨c1, c2, c3, c4⟩ := call_parts h1'.2
 obtain ⟨hs, hf, _⟩ := right_parts h1'.1
 by_cases h2 : (named e c).2 ≠ 0
 · rw [if_pos h2] at h; exact absurd h h2
 rw [if_neg h2] at h ⊢
 by_cases h3 : (decide (0 ≤ (named e c).1 + c.bars) && decide ((named e c).1 + c.bars < (e.bars.length : Int))) = false
 · rw [if_pos h3] at h; cases h
 rw [if_neg h3] at h ⊢
 have h3' : 0 ≤ (named e c).1 + c.bars ∧ (named e c).1 + c.bars < (e.bars.length : Int) := by simpa using h3
 by_cases h4 : (Ed.viR e ((named e c).1 + c.bars) c.pass).err ≠ 0
 · rw [if_pos h4] at h; exact absurd h h4
 rw [if_neg h4]
 obtain ⟨v1, v2, v3⟩ := (viR_ne hf h3' c4).2 (by simpa using h4)
 refine ⟨h1'.1, h1'.2, rfl, ?_, _, by omega, v1.symm⟩
 unfold momOk
 dsimp only
 rw [c2, v2, v3]; rfl
theorem goal_no {s : Score} {e : Ed.Edition} {r : Room} {c : Call} (h : (goal s e r c).2 ≠ 0) : (goal s e r c).1 = noMom := by
 unfold goal at h ⊢
 split
 · rfl
 rename_i h1
 rw [if_neg h1] at h
 split
 · rfl
 rename_i h2
 rw [if_neg h2] at h
 split
 · rfl
 rename_i h3
 rw [if_neg h3] at h
 split
 · rfl
 rename_i h4
 rw [if_neg h4] at h
 exact absurd rfl h
theorem goal_ne {s : Score} {e : Ed.Edition} {r : Room} {c : Call} (hr : rightB s e r = true) (hc : callOk c = true) : (goal s e r c).2 ≠ 1 ∧ (goal s e r c).2 ≠ 2 := by
 obtain ⟨c1, c2, c3, c4⟩ := call_parts hc
 obtain ⟨hs, hf, _⟩ := right_parts hr
 unfold goal
 rw [hr, hc, if_neg (by decide)]
 split
 · exact named_ne hf c1
 split
 · decide
 rename_i h3
 have h3' : 0 ≤ (named e c).1 + c.bars ∧ (named e c).1 + c.bars < (e.bars.length : Int) := by simpa using h3
 split
 · exact (viR_ne hf h3' c4).1
 · exact ⟨show (0 : Int) ≠ 1 by decide, show (0 : Int) ≠ 2 by decide⟩
theorem resolve_ok {s : Score} {e : Ed.Edition} {r : Room} {c : Call} (h : (resolve s e r c).2 = 0) :
 rightB s e r = true ∧ callOk c = true ∧ (resolve s e r c).1.pos = c.beat ∧ momOk (resolve s e r c).1 = true ∧ reason s r (resolve s e r c).1 = 0 ∧ (∃ i : Nat, i < e.bars.length ∧ (e.bars.getD i default).bar = (resolve s e r c).1.bar) ∧ goal s e r c = resolve s e r c := by
 rw [resolve_goal] at h ⊢
 by_cases h1 : (goal s e r c).2 ≠ 0
 · rw [if_pos h1] at h; exact absurd h h1
 rw [if_neg h1] at h ⊢
 by_cases h2 : reason s r (goal s e r c).1 ≠ 0
 · rw [if_pos h2] at h; exact absurd h h2
 rw [if_neg h2]
 obtain ⟨g1, g2, g3, g4, g5⟩ := goal_in (by simpa using h1 : (goal s e r c).2 = 0)
 exact ⟨g1, g2, g3, g4, by simpa using h2, g5, rfl⟩
theorem resolve_no {s : Score} {e : Ed.Edition} {r : Room} {c : Call} (h : (resolve s e r c).2 ≠ 0) : (resolve s e r c).1 = noMom := by
 rw [resolve_goal] at h ⊢
 by_cases h1 : (goal s e r c).2 ≠ 0
 · rw [if_pos h1]; exact goal_no h1
 rw [if_neg h1] at h ⊢
 by_cases h2 : reason s r (goal s e r c).1 ≠ 0
 · rw [if_pos h2]
 rw [if_neg h2] at h
 exact absurd h h1
theorem resolve_ne {s : Score} {e : Ed.Edition} {r : Room} {c : Call} (hr : rightB s e r = true) (hc : callOk c = true) : (resolve s e r c).2 ≠ 1 ∧ (resolve s e r c).2 ≠ 2 := by
 have h0 := goal_ne hr hc
 rw [resolve_goal]
 split
 · exact h0
 split
 · exact reason_ne
 · exact h0
def withBeat (c : Call) (b : Rat) : Call := { c with beat := b }
theorem goal_beat {s : Score} {e : Ed.Edition} {r : Room} {c : Call} {b : Rat} (hc : callOk c = true) (hd : callOk (withBeat c b) = true) :
 (goal s e r (withBeat c b)).2 = (goal s e r c).2 ∧ ((goal s e r c).2 = 0 → (goal s e r (withBeat c b)).1 = ⟨(goal s e r c).1.bar, (goal s e r c).1.pass, b⟩) := by
 have e1 : named e (withBeat c b) = named e c := rfl
 have e2 : (withBeat c b).bars = c.bars := rfl
 have e3 : (withBeat c b).pass = c.pass := rfl
 have e4 : (withBeat c b).beat = b := rfl
 unfold goal
 rw [hc, hd, e1, e2, e3, e4]
 split
 · exact ⟨rfl, fun h => by cases h⟩
 split
 · rename_i h; exact ⟨rfl, fun g => absurd g h⟩
 split
 · exact ⟨rfl, fun h => by cases h⟩
 split
 · rename_i h; exact ⟨rfl, fun g => absurd g h⟩
 · exact ⟨rfl, fun _ => rfl⟩
theorem reason_three {s : Score} {r : Room} {m : Mom} (hs : scoreOk s = true) (hd : durOk m.pos = true) (b : Rat) (hb : durOk b = true) (h : reason s r m = 0) :
 reason s r ⟨m.bar, m.pass, b⟩ = 0 ∨ (reason s r ⟨m.bar, m.pass, b⟩ = 3 ∧ 0 ≤ barAt s.bars m.bar ∧ ticksX (s.bars.getD (barAt s.bars m.bar).toNat default).len ≤ ticksX b) := by
 obtain ⟨i, hi, hil, ht, _, hv⟩ := reason_zero hs hd h
 obtain ⟨b1, b2, b3⟩ := bar_ticks hs hil
 by_cases h1 : ticksX b < ticksX (s.bars.getD i default).len
 · exact .inl (reason_of hs hb hi hil h1 hv)
 · refine .inr ⟨?_, by omega, by rw [hi, zAa]; omega⟩
   unfold reason
   dsimp only
   rw [hi, if_neg (by omega), zAa, under_ticks hb b1, decide_eq_false h1, if_pos rfl]
theorem reason_two {s : Score} {r : Room} {m : Mom} (b : Rat) :
 reason s r ⟨m.bar, m.pass, b⟩ = reason s r m ∨ reason s r ⟨m.bar, m.pass, b⟩ = 3 ∨ reason s r m = 3 := by
 unfold reason
 dsimp only
 by_cases h0 : barAt s.bars m.bar < 0
 · rw [if_pos h0, if_pos h0]; exact .inl rfl
 rw [if_neg h0, if_neg h0]
 by_cases h1 : under b (s.bars.getD (barAt s.bars m.bar).toNat default).len = false
 · rw [if_pos h1]; exact .inr (.inl rfl)
 rw [if_neg h1]
 by_cases h2 : under m.pos (s.bars.getD (barAt s.bars m.bar).toNat default).len = false
 · rw [if_pos h2]; exact .inr (.inr rfl)
 rw [if_neg h2]; exact .inl rfl
structure Beats (s : Score) (c : Call) (b : Rat) (x y : Mom × Int) : Prop where
 both : x.2 = 0 → y.2 = 0 → x.1.bar = y.1.bar ∧ x.1.pass = y.1.pass ∧ x.1.pos = c.beat ∧ y.1.pos = b
 one : x.2 = 0 → y.2 ≠ 0 → y.2 = 3 ∧ 0 ≤ barAt s.bars x.1.bar ∧ ticksX (s.bars.getD (barAt s.bars x.1.bar).toNat default).len ≤ ticksX b
 other : y.2 = 0 → x.2 ≠ 0 → x.2 = 3
 none : x.2 ≠ 0 → y.2 ≠ 0 → x.2 = y.2 ∨ x.2 = 3 ∨ y.2 = 3
theorem beats {s : Score} {e : Ed.Edition} {r : Room} {c : Call} {b : Rat} (hr : rightB s e r = true) (hc : callOk c = true) (hd : callOk (withBeat c b) = true) :
 Beats s c b (resolve s e r c) (resolve s e r (withBeat c b)) := by
 obtain ⟨hs, hf, _⟩ := right_parts hr
 obtain ⟨_, hb, _⟩ := call_parts hd
 obtain ⟨_, hcb, _⟩ := call_parts hc
 change durOk b = true at hb
 obtain ⟨g1, g2⟩ := goal_beat (s := s) (e := e) (r := r) hc hd
 by_cases h1 : (goal s e r c).2 ≠ 0
 · have e1 : resolve s e r c = goal s e r c := by rw [resolve_goal, if_pos h1]
   have e2 : resolve s e r (withBeat c b) = goal s e r (withBeat c b) := by rw [resolve_goal, if_pos (by rw [g1]; exact h1)]
   rw [e1, e2]
   exact ⟨fun h => absurd h h1, fun h => absurd h h1, fun h => absurd (g1 ▸ h) h1, fun _ _ => .inl g1.symm⟩
 have h1 : (goal s e r c).2 = 0 := by simpa using h1
 obtain ⟨_, _, p1, p2, _⟩ := goal_in h1
 have e1 : resolve s e r c = if reason s r (goal s e r c).1 ≠ 0 then (noMom, reason s r (goal s e r c).1) else goal s e r c := by rw [resolve_goal, if_neg (by simpa using h1)]
 have e2 : resolve s e r (withBeat c b) = if reason s r ⟨(goal s e r c).1.bar, (goal s e r c).1.pass, b⟩ ≠ 0 then (noMom, reason s r ⟨(goal s e r c).1.bar, (goal s e r c).1.pass, b⟩) else goal s e r (withBeat c b) := by
  rw [resolve_goal, g1, if_neg (by simpa using h1), g2 h1]
 have q := g2 h1
 rw [e1, e2]
 generalize hM : (goal s e r c).1 = M at *
 have hdur : durOk M.pos = true := by rw [p1]; exact hcb
 by_cases h2 : reason s r M ≠ 0
 · rw [if_pos h2]
   by_cases h3 : reason s r ⟨M.bar, M.pass, b⟩ ≠ 0
   · rw [if_pos h3]
     refine ⟨fun h => absurd h h2, fun h => absurd h h2, fun h => absurd h h3, fun _ _ => ?_⟩
     rcases reason_two (s := s) (r := r) (m := M) b with h | h | h
     · exact .inl h.symm
     · exact .inr (.inr h)
     · exact .inr (.inl h)
   · rw [if_neg h3]
     refine ⟨fun h => absurd h h2, fun h => absurd h h2, fun _ _ => ?_, fun _ h => absurd (g1.trans h1) h⟩
     rcases reason_two (s := s) (r := r) (m := M) b with h | h | h
     · exact absurd (h ▸ (by simpa using h3)) h2
     · exact absurd h (by rw [show reason s r ⟨M.bar, M.pass, b⟩ = 0 by simpa using h3]; decide)
     · exact h
 · rw [if_neg h2]
   have h2 : reason s r M = 0 := by simpa using h2
   by_cases h3 : reason s r ⟨M.bar, M.pass, b⟩ ≠ 0
   · rw [if_pos h3]
     refine ⟨fun _ h => absurd h h3, fun _ _ => ?_, fun h => absurd h h3, fun h => absurd h1 h⟩
     rcases reason_three hs hdur b hb h2 with h | h
     · exact absurd h h3
     · rw [hM]; exact h
   · rw [if_neg h3]
     refine ⟨fun _ _ => ?_, fun _ h => absurd (g1.trans h1) h, fun _ h => absurd h1 h, fun h => absurd h1 h⟩
     rw [hM, q]
     exact ⟨rfl, rfl, p1, rfl⟩
def roomCut (r : Room) (k : PCut) : Room := { r with form := withCut r.form k }
theorem right_cut {s : Score} {e : Ed.Edition} {r : Room} {k : PCut} (hr : rightB s e r = true) (hk : cutOk r.form.bars k = true) (hn : k ∉ r.form.cuts) (hl : r.form.cuts.length < 100) : rightB s e (roomCut r k) = true := by
 obtain ⟨h1, h2, h3, h4, h5⟩ := right_parts hr
 have hf := form_cut h3 hk hn hl
 unfold rightB roomB roomCut
 dsimp only
 rw [h1, h2, hf, h5]
 show (true && true && (s.version == s.version && r.form.bars == (s.bars.length : Int) && true)) = true
 rw [h4]; simp
theorem goal_cut {s : Score} {e : Ed.Edition} {r : Room} {c : Call} {k : PCut} (hr : rightB s e r = true) (hr2 : rightB s e (roomCut r k) = true) : goal s e (roomCut r k) c = goal s e r c := by
 unfold goal
 rw [hr, hr2]
theorem reason_cut {s : Score} {r : Room} {m : Mom} {k : PCut} : reason s (roomCut r k) m = if reason s r m = 0 then (if leaves k ⟨barAt s.bars m.bar, m.pass⟩ = true then 31 else 0) else reason s r m := by
 unfold reason
 by_cases h0 : barAt s.bars m.bar < 0
 · rw [if_pos h0, if_pos h0, if_neg (by decide)]
 rw [if_neg h0, if_neg h0]
 by_cases h1 : under m.pos (s.bars.getD (barAt s.bars m.bar).toNat default).len = false
 · rw [if_pos h1, if_pos h1, if_neg (by decide)]
 rw [if_neg h1, if_neg h1]
 show forceN (force (withCut r.form k) ⟨barAt s.bars m.bar, m.pass⟩) = _
 by_cases h2 : force r.form ⟨barAt s.bars m.bar, m.pass⟩ = .yes
 · rw [force_cut h2, h2]
   by_cases h3 : leaves k ⟨barAt s.bars m.bar, m.pass⟩ = true
   · rw [if_pos h3, if_pos h3]; rfl
   · rw [if_neg h3, if_neg h3]; rfl
 · rw [force_not h2]
   cases hf : force r.form ⟨barAt s.bars m.bar, m.pass⟩ with
   | yes => exact absurd hf h2
   | cut => rfl
   | never => rfl
theorem resolve_cut {s : Score} {e : Ed.Edition} {r : Room} {c : Call} {k : PCut} (hr : rightB s e r = true) (hk : cutOk r.form.bars k = true) (hn : k ∉ r.form.cuts) (hl : r.form.cuts.length < 100) :
 ((resolve s e r c).2 ≠ 0 → (resolve s e (roomCut r k) c).2 = (resolve s e r c).2) ∧
 ((resolve s e r c).2 = 0 → resolve s e (roomCut r k) c = if leaves k ⟨barAt s.bars (resolve s e r c).1.bar, (resolve s e r c).1.pass⟩ = true then (noMom, 31) else resolve s e r c) := by
 have hr2 := right_cut hr hk hn hl
 have hg := goal_cut (c := c) hr hr2
 by_cases h1 : (goal s e r c).2 ≠ 0
 · have e1 : resolve s e r c = goal s e r c := by rw [resolve_goal, if_pos h1]
   have e2 : resolve s e (roomCut r k) c = goal s e r c := by rw [resolve_goal, hg, if_pos h1]
   rw [e1, e2]
   exact ⟨fun _ => rfl, fun h => absurd h h1⟩
 have h1' : (goal s e r c).2 = 0 := by simpa using h1
 have e1 : resolve s e r c = if reason s r (goal s e r c).1 ≠ 0 then (noMom, reason s r (goal s e r c).1) else goal s e r c := by rw [resolve_goal, if_neg h1]
 have e2 : resolve s e (roomCut r k) c = if reason s (roomCut r k) (goal s e r c).1 ≠ 0 then (noMom, reason s (roomCut r k) (goal s e r c).1) else goal s e r c := by rw [resolve_goal, hg, if_neg h1]
 rw [e1, e2, reason_cut]
 by_cases h2 : reason s r (goal s e r c).1 ≠ 0
 · rw [if_neg h2, if_pos h2]
   exact ⟨fun _ => rfl, fun h => absurd h h2⟩
 · have h2' : reason s r (goal s e r c).1 = 0 := by simpa using h2
   rw [if_pos h2', if_neg h2]
   refine ⟨fun h => absurd h1' h, fun _ => ?_⟩
   by_cases h3 : leaves k ⟨barAt s.bars (goal s e r c).1.bar, (goal s e r c).1.pass⟩ = true
   · rw [if_pos h3, if_pos (by decide), if_pos h3]
   · rw [if_neg h3, if_neg (by decide), if_neg h3]
theorem goal_letter {s : Score} {e : Ed.Edition} {r : Room} (hr : rightB s e r = true) {j : Nat} (hj : j < e.letters.length) {b p : Int} (hb : -1000 ≤ b ∧ b ≤ 1000) (hp : inB p 0 20000 = true) :
 goal s e r ⟨(e.letters.getD j default).name, 0, b, ⟨0, 1⟩, p⟩ =
  if (decide (0 ≤ (e.letters.getD j default).pos + b) && decide ((e.letters.getD j default).pos + b < (e.bars.length : Int))) = false then (noMom, 21)
  else if (Ed.viR e ((e.letters.getD j default).pos + b) p).err ≠ 0 then (noMom, (Ed.viR e ((e.letters.getD j default).pos + b) p).err)
  else (⟨(Ed.viR e ((e.letters.getD j default).pos + b) p).bar, (Ed.viR e ((e.letters.getD j default).pos + b) p).pass, ⟨0, 1⟩⟩, 0) := by
 obtain ⟨hs, hf, _⟩ := right_parts hr
 have hl := letOk_at hf hj
 have hnm : Ed.nameB (e.letters.getD j default).name = true := by
  unfold Ed.letOk at hl
  simp only [zA0] at hl
  exact hl.1.1
 have hsz := nameB_pos hnm
 have e1 : named e ⟨(e.letters.getD j default).name, 0, b, ⟨0, 1⟩, p⟩ = ((e.letters.getD j default).pos, 0) := by
  unfold named
  rw [if_pos (show (e.letters.getD j default).name.size ≠ 0 by omega)]
  show Ed.letR e (e.letters.getD j default).name = _
  rw [Ed.letR_eq hf hnm, Ed.letI_of hf hj, if_neg (by omega), zAa]
 have hc : callOk ⟨(e.letters.getD j default).name, 0, b, ⟨0, 1⟩, p⟩ = true := by
  have hd : durOk ⟨0, 1⟩ = true := by decide
  unfold callOk placeOk
  dsimp only
  rw [hnm, hp, hd, inB_iff.2 hb]; simp
 unfold goal
 rw [hr, hc, e1, if_neg (by decide), if_neg (by simp)]
end Go.Proofs.YtdglbdfdkabjfaaGreatDoor.Pl
