/- Events as integers, and what is loaded, in plain words. No program is in sight. -/
import Derived.Test.YtpkolkfglgalpaaJP
set_option linter.unusedVariables false
set_option linter.unusedSimpArgs false
namespace Go.Jo

def inR (n lo hi : Int) : Bool := decide (lo ≤ n) && decide (n ≤ hi)
theorem inR_iff {n lo hi : Int} : inR n lo hi = true ↔ lo ≤ n ∧ n ≤ hi := by simp [inR]
def isId (n : Int) : Bool := inR n 1 1000000

structure Rdr where
  part : Int
  desk : Int
  seat : Int
  deriving DecidableEq, Inhabited
structure Mark where
  id : Int
  kind : Int
  layer : Int
  who : Rdr
  version : Int
  note : Int
  value : Int
  text : Bs
  deriving DecidableEq, Inhabited
structure Ev where
  clock : Int
  stand : Int
  kind : Int
  n : Int
  mark : Mark
  deriving DecidableEq, Inhabited
def noMark : Mark := ⟨0, 0, 0, ⟨0, 0, 0⟩, 0, 0, 0, []⟩
def noEv : Ev := ⟨0, 0, 0, 0, noMark⟩

def isRdr (r : Rdr) : Bool := isId r.part && inR r.desk 1 40 && inR r.seat 1 4
def byOk (layer : Int) (r : Rdr) : Bool :=
  if layer = 1 then isRdr r else if layer = 2 then isId r.part && inR r.desk 1 40 && r.seat == 0 else if layer = 3 then inR r.part 0 99 && r.desk == 0 && r.seat == 0 else
  if layer = 4 then r.part == 0 && r.desk == 0 && r.seat == 0 else false
def textOk (t : Bs) : Bool := decide (t.length ≤ 200) && t.all fun c => decide (32 ≤ c.toNat) && decide (c.toNat ≤ 126)
def markOk (m : Mark) : Bool := textOk m.text && byOk m.layer m.who && isId m.id && isId m.version && isId m.note && inR m.kind 1 5 && inR m.value 0 1000 && (m.kind != 1 || decide (m.value ≤ 2))
def evOk (e : Ev) : Bool := inR e.clock 0 1000000000 && isId e.stand &&
  (if e.kind = 1 then markOk e.mark && e.n == 0 else if e.kind = 2 then isId e.n && e.mark == noMark else if e.kind = 3 then inR e.n 0 1000 && e.mark == noMark else false)

def txt (t : Bs) : List Int := t.map fun c => (c.toNat : Int)
def ints (e : Ev) : List Int := [e.clock, e.stand, e.kind] ++
  if e.kind = 1 then [e.mark.id, e.mark.kind, e.mark.layer, e.mark.who.part, e.mark.who.desk, e.mark.who.seat, e.mark.version, e.mark.note, e.mark.value] ++ txt e.mark.text else [e.n]
def untxt (l : List Int) : Bs := l.map fun n => UInt8.ofNat n.toNat
def rawEv (l : List Int) : Ev :=
  if l.getD 2 0 = 1 then ⟨l.getD 0 0, l.getD 1 0, 1, 0, ⟨l.getD 3 0, l.getD 4 0, l.getD 5 0, ⟨l.getD 6 0, l.getD 7 0, l.getD 8 0⟩, l.getD 9 0, l.getD 10 0, l.getD 11 0, untxt (l.drop 12)⟩⟩
  else ⟨l.getD 0 0, l.getD 1 0, l.getD 2 0, l.getD 3 0, noMark⟩
def formOk (l : List Int) : Bool := decide (4 ≤ l.length) && decide (l.length ≤ 212) &&
  if l.getD 2 0 = 1 then decide (12 ≤ l.length) && (l.drop 12).all (fun n => inR n 32 126) else decide (l.length = 4)
def event (l : List Int) : Option Ev := if formOk l && evOk (rawEv l) then some (rawEv l) else none

theorem untxt_txt (t : Bs) : untxt (txt t) = t := by
  unfold untxt txt
  rw [List.map_map]
  conv => rhs; rw [← List.map_id t]
  exact List.map_congr_left fun c _ => by simp
theorem txt_untxt {l : List Int} (h : l.all (fun n => inR n 32 126) = true) : txt (untxt l) = l := by
  unfold untxt txt
  rw [List.map_map]
  conv => rhs; rw [← List.map_id l]
  refine List.map_congr_left fun n hn => ?_
  have := inR_iff.1 (List.all_eq_true.1 h n hn)
  simp [UInt8.toNat_ofNat']; omega
theorem textOk_iff {t : Bs} : textOk t = true ↔ t.length ≤ 200 ∧ ∀ c ∈ t, 32 ≤ c.toNat ∧ c.toNat ≤ 126 := by
  simp [textOk]
theorem ints_len {e : Ev} (h : evOk e = true) : 4 ≤ (ints e).length ∧ (ints e).length ≤ 212 := by
  unfold ints
  split
  · rename_i hk
    have h1 : textOk e.mark.text = true := by
      simp only [evOk, hk, if_true, Bool.and_eq_true, markOk] at h
      exact h.2.1.1.1.1.1.1.1.1
    have := (textOk_iff.1 h1).1
    simp [txt]; omega
  · simp
theorem event_ints {e : Ev} (h : evOk e = true) : event (ints e) = some e := by
  obtain ⟨clock, stand, kind, n, m⟩ := e
  by_cases hk : kind = 1
  · subst hk
    have h0 := h
    simp only [evOk, if_true, Bool.and_eq_true, markOk, beq_iff_eq] at h0
    have h1 := textOk_iff.1 h0.2.1.1.1.1.1.1.1.1
    have hn : n = 0 := h0.2.2
    subst hn
    have hr : rawEv (ints ⟨clock, stand, 1, 0, m⟩) = ⟨clock, stand, 1, 0, m⟩ := by
      simp [rawEv, ints, untxt_txt]
    unfold event
    rw [hr, h]
    have hf : formOk (ints ⟨clock, stand, 1, 0, m⟩) = true := by
      simp only [formOk, ints, if_true, List.cons_append, List.nil_append, List.length_cons, txt, List.length_map, List.getD_cons_succ, List.getD_cons_zero, List.drop_succ_cons, List.drop_zero, Bool.and_eq_true, decide_eq_true_eq, List.all_eq_true, List.mem_map, forall_exists_index, and_imp, forall_apply_eq_imp_iff₂, inR_iff]
      refine ⟨⟨by omega, by omega⟩, by omega, fun c hc => ?_⟩
      have := h1.2 c hc
      omega
    rw [hf]; rfl
  · have hm : m = noMark := by
      simp only [evOk, hk, if_false, Bool.and_eq_true] at h
      obtain ⟨_, h⟩ := h
      split at h
      · simp at h; exact h.2
      · split at h
        · simp at h; exact h.2
        · simp at h
    subst hm
    have hr : rawEv (ints ⟨clock, stand, kind, n, noMark⟩) = ⟨clock, stand, kind, n, noMark⟩ := by
      simp [rawEv, ints, hk]
    unfold event
    rw [hr, h]
    have hf : formOk (ints ⟨clock, stand, kind, n, noMark⟩) = true := by simp [formOk, ints, hk]
    rw [hf]; rfl
theorem event_inv {l : List Int} {e : Ev} (h : event l = some e) : evOk e = true ∧ ints e = l := by
  unfold event at h
  split at h
  · rename_i h1
    simp only [Bool.and_eq_true] at h1
    simp only [Option.some.injEq] at h
    subst h
    refine ⟨h1.2, ?_⟩
    obtain ⟨hf, _⟩ := h1
    unfold formOk at hf
    simp only [Bool.and_eq_true, decide_eq_true_eq] at hf
    obtain ⟨⟨h4, _⟩, hf⟩ := hf
    unfold rawEv
    split
    · rename_i hk
      rw [if_pos hk] at hf
      simp only [Bool.and_eq_true, decide_eq_true_eq] at hf
      obtain ⟨h12, hall⟩ := hf
      have ht := txt_untxt hall
      simp only [ints, if_true, ht]
      match l, h12, hk with
      | a :: b :: c :: d :: e :: f :: g :: i :: j :: k :: m :: n :: r, _, hk => simp at hk; simp [hk]
    · rename_i hk
      rw [if_neg hk] at hf
      simp only [decide_eq_true_eq] at hf
      simp only [ints, hk, if_false]
      match l, hf with
      | [a, b, c, d], _ => simp
  · simp at h
theorem ints_inj {a b : Ev} (ha : evOk a = true) (hb : evOk b = true) (h : ints a = ints b) : a = b := by
  have h1 := event_ints ha
  rw [h, event_ints hb] at h1
  simpa using h1.symm
theorem ints_in {e : Ev} (h : evOk e = true) : ∀ n ∈ ints e, InI n ∧ -1000000000 ≤ n ∧ n ≤ 1000000000 := by
  obtain ⟨clock, stand, kind, n, m⟩ := e
  intro x hx
  have key : -1000000000 ≤ x ∧ x ≤ 1000000000 := by
    by_cases hk : kind = 1
    · subst hk
      simp only [evOk, if_true, Bool.and_eq_true, markOk, inR_iff, isId, Bool.or_eq_true, beq_iff_eq] at h
      simp only [ints, if_true, List.cons_append, List.nil_append, List.mem_cons, txt, List.mem_map] at hx
      have hby : (0 ≤ m.who.part ∧ m.who.part ≤ 1000000) ∧ (0 ≤ m.who.desk ∧ m.who.desk ≤ 40) ∧ (0 ≤ m.who.seat ∧ m.who.seat ≤ 4) ∧ 1 ≤ m.layer ∧ m.layer ≤ 4 := by
        have hb := h.2.1.1.1.1.1.1.1.2
        unfold byOk at hb
        split at hb
        · simp only [isRdr, isId, Bool.and_eq_true, inR_iff] at hb; omega
        · split at hb
          · simp only [isId, Bool.and_eq_true, inR_iff, beq_iff_eq] at hb; omega
          · split at hb
            · simp only [Bool.and_eq_true, inR_iff, beq_iff_eq] at hb; omega
            · split at hb
              · simp only [Bool.and_eq_true, beq_iff_eq] at hb; omega
              · simp at hb
      rcases hx with rfl | rfl | rfl | rfl | rfl | rfl | rfl | rfl | rfl | rfl | rfl | rfl | ⟨c, hc, rfl⟩
      all_goals first | omega | skip
      have := c.toNat_lt
      omega
    · simp only [evOk, hk, if_false, Bool.and_eq_true, inR_iff, isId] at h
      simp only [ints, hk, if_false, List.cons_append, List.nil_append, List.mem_cons, List.not_mem_nil, or_false] at hx
      obtain ⟨h1, h⟩ := h
      split at h
      · simp only [Bool.and_eq_true, inR_iff] at h; omega
      · split at h
        · simp only [Bool.and_eq_true, inR_iff] at h; omega
        · simp at h
  exact ⟨⟨by omega, by omega⟩, key⟩

/-! ### Frames of events -/
def fr (e : Ev) : Bs := frame (ints e)
def cat (l : List Ev) : Bs := l.flatMap fr
def loadL : List (List Int) → List Ev × Nat
  | [] => ([], 0)
  | l :: r => match event l with
    | some e => (e :: (loadL r).1, (frame l).length + (loadL r).2)
    | none => ([], 0)
def load (b : Bs) : List Ev × Nat := loadL (frames b).1
theorem fr_ok {e : Ev} (h : evOk e = true) : (ints e).length ≤ maxInts ∧ ∀ n ∈ ints e, InI n := ⟨by have := (ints_len h).2; have : maxInts = 4000 := rfl; omega, fun n hn => (ints_in h n hn).1⟩
theorem load_cons {e : Ev} (h : evOk e = true) (r : Bs) : load (fr e ++ r) = (e :: (load r).1, (fr e).length + (load r).2) := by
  unfold load fr
  rw [frames_cons (fr_ok h).1 (fr_ok h).2]
  simp only [loadL, event_ints h]
theorem load_none {b : Bs} (h : whole b = none) : load b = ([], 0) := by
  unfold load; rw [frames_none h]; rfl
theorem load_nil : load [] = ([], 0) := load_none rfl
theorem load_cat : ∀ (l : List Ev) (r : Bs), (∀ e ∈ l, evOk e = true) → load (cat l ++ r) = (l ++ (load r).1, (cat l).length + (load r).2)
  | [], r, _ => by simp [cat]
  | e :: l, r, h => by
    have h1 := load_cat l r fun x hx => h x (List.mem_cons_of_mem _ hx)
    have e1 : cat (e :: l) = fr e ++ cat l := by simp [cat]
    rw [e1, List.append_assoc, load_cons (h e (List.mem_cons_self ..)), h1]
    simp; omega
theorem load_inv (b : Bs) : ∀ k, b.length ≤ k → (∀ e ∈ (load b).1, evOk e = true) ∧ b.take (load b).2 = cat (load b).1 ∧ (load b).2 = (cat (load b).1).length ∧ (load b).2 ≤ b.length := by
  intro k
  induction k generalizing b with
  | zero =>
    intro h
    have : b = [] := List.length_eq_zero_iff.1 (by omega)
    subst this
    simp [load_nil, cat]
  | succ k ih =>
    intro h
    cases hw : whole b with
    | none => simp [load_none hw, cat]
    | some p =>
      obtain ⟨l, n⟩ := p
      obtain ⟨_, _, e1, e2, e3⟩ := whole_inv hw
      have hl := frame_len l
      unfold load
      rw [frames_some hw]
      simp only [loadL]
      cases he : event l with
      | none => simp [cat]
      | some e =>
        obtain ⟨g1, g2⟩ := event_inv he
        have hrec := ih (b.drop n) (by rw [List.length_drop]; omega)
        unfold load at hrec
        obtain ⟨r1, r2, r3, r4⟩ := hrec
        have hc : ∀ L, cat (e :: L) = frame l ++ cat L := fun L => by simp [cat, fr, g2]
        simp only
        refine ⟨fun x hx => ?_, ?_, ?_, ?_⟩
        · rcases List.mem_cons.1 hx with rfl | hx
          · exact g1
          · exact r1 x hx
        · rw [hc, ← e1, List.take_add, e3, r2]
        · rw [hc, List.length_append, ← r3]
        · rw [List.length_drop] at r4
          omega

/-- Bytes that are cut: what is loaded is what was written whole. -/
theorem whole_short {l : List Int} (hl : l.length ≤ maxInts) (r : Bs) {k : Nat} (hk : k < (frame l).length) : whole ((frame l ++ r).take k) = none := by
  have hf := frame_len l
  unfold whole
  split
  · rfl
  · rename_i h1
    rw [List.length_take, List.length_append] at h1
    have h3 : n3 ((frame l ++ r).take k) = n3 (frame l ++ r) := by
      unfold n3
      have g : ∀ i, i < 3 → ((frame l ++ r).take k).getD i 0 = (frame l ++ r).getD i 0 := fun i hi => by
        rw [List.getD_eq_getElem?_getD, List.getD_eq_getElem?_getD, List.getElem?_take, if_pos (by omega)]
      rw [g 0 (by omega), g 1 (by omega), g 2 (by omega)]
    rw [h3, frame_n3 hl, if_pos (by rw [List.length_take, List.length_append]; omega)]
/-- How many of the events are whole in so many bytes, and where these end. -/
def upto : List Ev → Nat → Nat × Nat
  | [], _ => (0, 0)
  | e :: l, k => if (fr e).length ≤ k then (1 + (upto l (k - (fr e).length)).1, (fr e).length + (upto l (k - (fr e).length)).2) else (0, 0)
theorem load_take : ∀ (l : List Ev) (k : Nat), (∀ e ∈ l, evOk e = true) → k ≤ (cat l).length → load ((cat l).take k) = (l.take (upto l k).1, (upto l k).2)
  | [], k, _, _ => by simp [cat, load_nil, upto]
  | e :: l, k, h, hk => by
    have e1 : cat (e :: l) = fr e ++ cat l := by simp [cat]
    have he := h e (List.mem_cons_self ..)
    unfold upto
    split
    · rename_i hle
      rw [e1, List.length_append] at hk
      have h1 := load_take l (k - (fr e).length) (fun x hx => h x (List.mem_cons_of_mem _ hx)) (by omega)
      rw [e1, List.take_append, List.take_of_length_le hle, load_cons he, h1]
      simp [Nat.add_comm 1]
    · rename_i hlt
      rw [e1]
      have := load_none (whole_short (fr_ok he).1 (cat l) (k := k) (by unfold fr at hlt; omega))
      unfold fr; rw [this]; rfl

/-! ### A byte that is changed -/
theorem fnv_step_inj {a b : Nat} (ha : a < 18446744073709551616) (hb : b < 18446744073709551616) (h : a * 1099511628211 % 18446744073709551616 = b * 1099511628211 % 18446744073709551616) : a = b := by
  have key : ∀ x, x < 18446744073709551616 → x * 1099511628211 % 18446744073709551616 * 14886173955864302971 % 18446744073709551616 = x := fun x hx => by
    rw [Nat.mod_mul_mod, Nat.mul_assoc, show 1099511628211 * 14886173955864302971 = 18446744073709551616 * 887285111055 + 1 from by decide]
    rw [Nat.mul_add, Nat.mul_one, Nat.mul_left_comm, Nat.mul_add_mod, Nat.mod_eq_of_lt hx]
  rw [← key a ha, h, key b hb]
def fnvF (d : Nat) (b : Bs) : Nat := b.foldl fstep d
theorem fstep_lt (d : Nat) (c : UInt8) : fstep d c < 18446744073709551616 := by unfold fstep; exact Nat.mod_lt _ (by decide)
theorem xor_lt {d : Nat} (c : UInt8) (h : d < 18446744073709551616) : d ^^^ c.toNat < 18446744073709551616 :=
  Nat.xor_lt_two_pow (n := 64) h (by have := c.toNat_lt; omega)
theorem xor_left_inj {a b c : Nat} (h : a ^^^ c = b ^^^ c) : a = b := by
  have := congrArg (· ^^^ c) h
  simpa [Nat.xor_assoc] using this
theorem xor_right_inj {a b c : Nat} (h : c ^^^ a = c ^^^ b) : a = b := xor_left_inj (by rwa [Nat.xor_comm a c, Nat.xor_comm b c])
theorem fnvF_lt : ∀ (b : Bs) (d : Nat), d < 18446744073709551616 → fnvF d b < 18446744073709551616
  | [], d, h => h
  | c :: b, d, h => fnvF_lt b _ (fstep_lt d c)
theorem fnvF_inj : ∀ (b : Bs) (d d' : Nat), d < 18446744073709551616 → d' < 18446744073709551616 → fnvF d b = fnvF d' b → d = d'
  | [], d, d', _, _, h => h
  | c :: b, d, d', h1, h2, h => by
    have h3 := fnvF_inj b _ _ (fstep_lt d c) (fstep_lt d' c) h
    unfold fstep at h3
    exact xor_left_inj (fnv_step_inj (xor_lt c h1) (xor_lt c h2) h3)
theorem fnv_change (x y : Bs) (c c' : UInt8) (h : c ≠ c') : fnv (x ++ c :: y) ≠ fnv (x ++ c' :: y) := by
  intro he
  have e : ∀ b, fnv b = fnvF 14695981039346656037 b := fun _ => rfl
  have e2 : ∀ z, fnvF 14695981039346656037 (x ++ z) = fnvF (fnvF 14695981039346656037 x) z := fun z => by unfold fnvF; rw [List.foldl_append]
  rw [e, e, e2, e2] at he
  have hx := fnvF_lt x 14695981039346656037 (by decide)
  generalize fnvF 14695981039346656037 x = d at he hx
  have h3 := fnvF_inj y _ _ (fstep_lt d c) (fstep_lt d c') he
  unfold fstep at h3
  have h4 := xor_right_inj (fnv_step_inj (xor_lt c hx) (xor_lt c' hx) h3)
  exact h (UInt8.toNat_inj.1 h4)
theorem fnv_lt (b : Bs) : fnv b < 18446744073709551616 := fnvF_lt b _ (by decide)
theorem be8_inj {d d' : Nat} (h : d < 18446744073709551616) (h' : d' < 18446744073709551616) (he : be8 d = be8 d') : d = d' := by
  have g : ∀ i, i < 8 → d / 256 ^ (7 - i) % 256 = d' / 256 ^ (7 - i) % 256 := fun i hi => by
    have := congrArg (fun l => (l.getD i 0).toNat) he
    simpa [be8, hi, UInt8.toNat_ofNat'] using this
  have g0 := g 0 (by omega)
  have g1 := g 1 (by omega)
  have g2 := g 2 (by omega)
  have g3 := g 3 (by omega)
  have g4 := g 4 (by omega)
  have g5 := g 5 (by omega)
  have g6 := g 6 (by omega)
  have g7 := g 7 (by omega)
  simp at g0 g1 g2 g3 g4 g5 g6 g7
  omega
theorem set_split {b : Bs} {k : Nat} (h : k < b.length) (c : UInt8) : ∃ x y, b = x ++ b[k] :: y ∧ b.set k c = x ++ c :: y ∧ x.length = k := by
  refine ⟨b.take k, b.drop (k + 1), ?_, ?_, by rw [List.length_take]; omega⟩
  · rw [List.getElem_cons_drop, List.take_append_drop]
  · rw [List.set_eq_take_append_cons_drop, if_pos h]
theorem whole_changed {l : List Int} (hl : l.length ≤ maxInts) {k : Nat} (h3 : 3 ≤ k) (hk : k < (frame l).length) {c : UInt8} (hc : c ≠ (frame l)[k]) : whole ((frame l).set k c) = none := by
  have hf := frame_len l
  have hh : (headed l).length = (putL l).length + 3 := by simp [headed, be3]
  have hn : n3 ((frame l).set k c) = (putL l).length := by
    have := frame_n3 hl []
    rw [List.append_nil] at this
    rw [← this]
    unfold n3
    have g : ∀ i, i < 3 → ((frame l).set k c).getD i 0 = (frame l).getD i 0 := fun i hi => by
      rw [List.getD_eq_getElem?_getD, List.getD_eq_getElem?_getD, List.getElem?_set_ne (by omega)]
    rw [g 0 (by omega), g 1 (by omega), g 2 (by omega)]
  unfold whole
  rw [hn, List.length_set, if_neg (by omega), if_neg (by omega)]
  rw [if_neg]
  intro he
  rcases Nat.lt_or_ge k (headed l).length with hlt | hge
  · have e1 : (frame l).set k c = (headed l).set k c ++ sumB (headed l) := by unfold frame; rw [List.set_append_left _ _ hlt]
    have hcb : c ≠ (headed l)[k] := by
      have : (frame l)[k] = (headed l)[k] := List.getElem_append_left hlt
      rwa [this] at hc
    have t1 : ((headed l).set k c ++ sumB (headed l)).take ((putL l).length + 3) = (headed l).set k c := by
      rw [List.take_append_of_le_length (by rw [List.length_set]; omega), ← hh, ← List.length_set (as := headed l) (i := k) (a := c), List.take_length]
    have t2 : (((headed l).set k c ++ sumB (headed l)).drop ((putL l).length + 3)).take 8 = sumB (headed l) := by
      rw [← hh, ← List.length_set (as := headed l) (i := k) (a := c), List.drop_left, ← sumB_len (headed l), List.take_length]
    rw [e1, t1, t2] at he
    obtain ⟨x, y, q1, q2, _⟩ := set_split hlt c
    unfold sumB at he
    have := be8_inj (fnv_lt _) (fnv_lt _) he
    rw [q2] at this
    rw [q1] at this
    exact fnv_change x y _ _ (by simpa [← q1] using hcb) this
  · have hk2 : k - (headed l).length < (sumB (headed l)).length := by rw [sumB_len]; omega
    have e1 : (frame l).set k c = headed l ++ (sumB (headed l)).set (k - (headed l).length) c := by unfold frame; rw [List.set_append_right _ _ hge]
    have hcb : c ≠ (sumB (headed l))[k - (headed l).length] := by
      have : (frame l)[k] = (sumB (headed l))[k - (headed l).length] := List.getElem_append_right hge
      rwa [this] at hc
    have t1 : (headed l ++ (sumB (headed l)).set (k - (headed l).length) c).take ((putL l).length + 3) = headed l := by rw [← hh, List.take_left]
    have t2 : ((headed l ++ (sumB (headed l)).set (k - (headed l).length) c).drop ((putL l).length + 3)).take 8 = (sumB (headed l)).set (k - (headed l).length) c := by
      rw [← hh, List.drop_left, List.take_of_length_le (by rw [List.length_set, sumB_len]; omega)]
    rw [e1, t1, t2] at he
    apply hcb
    have h4 : (sumB (headed l))[k - (headed l).length]? = ((sumB (headed l)).set (k - (headed l).length) c)[k - (headed l).length]? := by rw [← he]
    rw [List.getElem?_set_self hk2, List.getElem?_eq_getElem hk2] at h4
    exact (Option.some.inj h4).symm

end Go.Jo
