/- The codec and the journal in plain words: integers as bytes, frames, and what reading them gives. No program is in sight. -/
namespace Go.Jo

abbrev Bs := List UInt8

/-- The number of an integer, and back. -/
def zig (n : Int) : Nat := if 0 ≤ n then (2 * n).toNat else (-2 * n - 1).toNat
def unzig (u : Nat) : Int := if u % 2 = 0 then ((u / 2 : Nat) : Int) else -((u / 2 : Nat) : Int) - 1
theorem unzig_zig (n : Int) : unzig (zig n) = n := by
  unfold unzig zig
  split <;> split <;> omega
theorem zig_unzig (u : Nat) : zig (unzig u) = u := by
  unfold unzig zig
  split <;> split <;> omega
theorem zig_lt {n : Int} (h : -9223372036854775808 ≤ n ∧ n ≤ 9223372036854775807) : zig n < 18446744073709551616 := by
  unfold zig; split <;> omega
theorem unzig_in {u : Nat} (h : u < 18446744073709551616) : -9223372036854775808 ≤ unzig u ∧ unzig u ≤ 9223372036854775807 := by
  unfold unzig; split <;> omega

def lebF : Nat → Nat → Bs
  | 0, _ => []
  | f + 1, u => if u < 128 then [UInt8.ofNat u] else UInt8.ofNat (u % 128 + 128) :: lebF f (u / 128)
def leb (u : Nat) : Bs := lebF 10 u

/-- The number with which bytes begin, and what follows; i bytes were read, they make u. -/
def rdL : Bs → Nat → Nat → Option (Nat × Bs)
  | [], _, _ => none
  | c :: r, i, u => if (i = 9 ∧ 1 < c.toNat) ∨ 9 < i then none else
      if 127 < c.toNat then rdL r (i + 1) (u + c.toNat % 128 * 128 ^ i)
      else if c.toNat = 0 ∧ 0 < i then none else some (u + c.toNat % 128 * 128 ^ i, r)
def rd (b : Bs) : Option (Int × Bs) := (rdL b 0 0).map fun p => (unzig p.1, p.2)

theorem u8_toNat {k : Nat} (h : k < 256) : (UInt8.ofNat k).toNat = k := by
  simp [UInt8.toNat_ofNat']; omega

theorem rdL_leb : ∀ (f u i acc : Nat) (r : Bs), f + i = 10 → u * 128 ^ i < 18446744073709551616 → (0 < i → 0 < u) → rdL (lebF f u ++ r) i acc = if f = 0 then rdL r i acc else some (acc + u * 128 ^ i, r)
  | 0, u, i, acc, r, _, _, _ => by simp [lebF]
  | f + 1, u, i, acc, r, hf, hu, h0 => by
    have hi : i ≤ 9 := by omega
    have h9 : i = 9 → u < 2 := fun e => by subst e; simp at hu; omega
    simp only [lebF, Nat.add_eq_zero_iff, Nat.succ_ne_self, and_false, if_false]
    by_cases h : u < 128
    · simp only [if_pos h, List.cons_append, List.nil_append, rdL]
      rw [u8_toNat (by omega)]
      rw [if_neg (by omega), if_neg (by omega), if_neg (by omega), Nat.mod_eq_of_lt h]
    · simp only [if_neg h, List.cons_append, rdL]
      rw [u8_toNat (by omega)]
      have e : (u % 128 + 128) % 128 = u % 128 := by omega
      have hp : u / 128 * 128 ^ (i + 1) + u % 128 * 128 ^ i = u * 128 ^ i := by
        rw [Nat.pow_succ, Nat.mul_comm (128 ^ i) 128, ← Nat.mul_assoc, ← Nat.add_mul]
        congr 1; omega
      rw [if_neg (by omega), if_pos (by omega), e, rdL_leb f (u / 128) (i + 1) _ r (by omega) (by omega) (by omega), if_neg (by omega)]
      congr 2; omega

theorem rdL_inv : ∀ (b : Bs) (i acc v : Nat) (r : Bs), i ≤ 9 → rdL b i acc = some (v, r) → ∃ u, v = acc + u * 128 ^ i ∧ b = lebF (10 - i) u ++ r ∧ u * 128 ^ i < 18446744073709551616 ∧ (0 < i → 0 < u)
  | [], _, _, _, _, _, h => by simp [rdL] at h
  | c :: b, i, acc, v, r, hi, h => by
    have hc : c.toNat < 256 := c.toNat_lt
    simp only [rdL] at h
    split at h
    · simp at h
    · rename_i h1
      split at h
      · rename_i h2
        have hi8 : i ≤ 8 := by omega
        obtain ⟨u', e1, e2, e3, e4⟩ := rdL_inv b (i + 1) _ v r (by omega) h
        have hp : (c.toNat % 128 + 128 * u') * 128 ^ i = c.toNat % 128 * 128 ^ i + u' * 128 ^ (i + 1) := by
          rw [Nat.pow_succ, Nat.add_mul, Nat.mul_comm (128 ^ i) 128, ← Nat.mul_assoc, Nat.mul_comm 128 u']
        have hu' := e4 (by omega)
        refine ⟨c.toNat % 128 + 128 * u', by rw [hp, e1]; omega, ?_, ?_, fun _ => by omega⟩
        · obtain ⟨f, hf⟩ : ∃ f, 10 - i = f + 1 := ⟨9 - i, by omega⟩
          have hf' : 10 - (i + 1) = f := by omega
          rw [hf, lebF, if_neg (by omega), e2, hf']
          have g1 : (c.toNat % 128 + 128 * u') % 128 + 128 = c.toNat := by omega
          have g2 : (c.toNat % 128 + 128 * u') / 128 = u' := by omega
          rw [g1, g2, UInt8.ofNat_toNat]; rfl
        · rw [hp]
          obtain ⟨K, hK⟩ : ∃ K, 18446744073709551616 = K * 128 ^ (i + 1) := by
            refine ⟨18446744073709551616 / 128 ^ (i + 1), ?_⟩
            have hi' : i = 0 ∨ i = 1 ∨ i = 2 ∨ i = 3 ∨ i = 4 ∨ i = 5 ∨ i = 6 ∨ i = 7 ∨ i = 8 := by omega
            rcases hi' with rfl | rfl | rfl | rfl | rfl | rfl | rfl | rfl | rfl <;> decide
          rw [hK] at e3 ⊢
          have h5 := Nat.lt_of_mul_lt_mul_right e3
          have h6 := Nat.mul_le_mul_right (128 ^ (i + 1)) (show u' + 1 ≤ K by omega)
          rw [Nat.add_mul, Nat.one_mul] at h6
          have h7 : c.toNat % 128 * 128 ^ i < 128 ^ (i + 1) := by
            rw [Nat.pow_succ, Nat.mul_comm (128 ^ i)]
            exact Nat.mul_lt_mul_of_pos_right (by omega) (Nat.pow_pos (by omega))
          omega
      · rename_i h2
        split at h
        · simp at h
        · rename_i h3
          simp only [Option.some.injEq, Prod.mk.injEq] at h
          obtain ⟨rfl, rfl⟩ := h
          refine ⟨c.toNat, by rw [Nat.mod_eq_of_lt (by omega)], ?_, ?_, fun _ => by omega⟩
          · obtain ⟨f, hf⟩ : ∃ f, 10 - i = f + 1 := ⟨9 - i, by omega⟩
            rw [hf, lebF, if_pos (by omega), UInt8.ofNat_toNat]; rfl
          · by_cases h9 : i = 9
            · subst h9; simp; omega
            · have h5 := Nat.mul_le_mul (show c.toNat ≤ 128 by omega) (Nat.pow_le_pow_right (show 0 < 128 by omega) (show i ≤ 8 by omega))
              have h6 : 128 * 128 ^ 8 < 18446744073709551616 := by decide
              omega

def InI (n : Int) : Prop := -9223372036854775808 ≤ n ∧ n ≤ 9223372036854775807
def num (n : Int) : Bs := leb (zig n)
theorem rd_num {n : Int} (h : InI n) (r : Bs) : rd (num n ++ r) = some (n, r) := by
  have := rdL_leb 10 (zig n) 0 0 r rfl (by simpa using zig_lt h) (by omega)
  unfold rd num leb
  rw [this]
  simp [unzig_zig]
theorem rd_inv {b r : Bs} {n : Int} (h : rd b = some (n, r)) : b = num n ++ r ∧ InI n := by
  unfold rd at h
  simp only [Option.map_eq_some_iff, Prod.exists, Prod.mk.injEq] at h
  obtain ⟨v, r', h1, rfl, rfl⟩ := h
  obtain ⟨u, e1, e2, e3, _⟩ := rdL_inv b 0 0 v r' (by omega) h1
  simp at e1 e3
  subst e1
  refine ⟨?_, unzig_in e3⟩
  unfold num leb; rw [zig_unzig]; exact e2
theorem lebF_len : ∀ (f u : Nat), (lebF f u).length ≤ f
  | 0, _ => by simp [lebF]
  | f + 1, u => by
    have := lebF_len f (u / 128)
    unfold lebF; split <;> simp <;> omega
theorem lebF_pos (f u : Nat) : 1 ≤ (lebF (f + 1) u).length := by unfold lebF; split <;> simp
theorem num_len (n : Int) : 1 ≤ (num n).length ∧ (num n).length ≤ 10 := ⟨lebF_pos 9 _, lebF_len 10 _⟩
theorem num_small {n : Int} (h : 0 ≤ n ∧ n ≤ 8191) : (num n).length ≤ 2 := by
  have hz : zig n < 16384 := by unfold zig; split <;> omega
  unfold num leb
  generalize zig n = u at hz
  simp only [lebF]
  split
  · simp
  · rw [if_pos (by omega)]; simp

/-! ### Lists of integers -/
def putL (l : List Int) : Bs := num l.length ++ l.flatMap num
def rdN : Nat → Bs → Option (List Int × Bs)
  | 0, b => some ([], b)
  | n + 1, b => match rd b with
    | some (v, r) => (rdN n r).map fun p => (v :: p.1, p.2)
    | none => none
def maxInts : Nat := 4000
def getL (b : Bs) : Option (List Int) := match rd b with
  | some (n, r) => if n < 0 ∨ (maxInts : Int) < n then none else match rdN n.toNat r with
    | some (l, []) => some l
    | _ => none
  | none => none
theorem rdN_put : ∀ (l : List Int) (r : Bs), (∀ n ∈ l, InI n) → rdN l.length (l.flatMap num ++ r) = some (l, r)
  | [], r, _ => rfl
  | n :: l, r, h => by
    simp only [List.length_cons, List.flatMap_cons, List.append_assoc, rdN]
    rw [rd_num (h n (List.mem_cons_self ..))]
    simp only
    rw [rdN_put l r fun m hm => h m (List.mem_cons_of_mem _ hm)]
    rfl
theorem rdN_inv : ∀ (k : Nat) (b r : Bs) (l : List Int), rdN k b = some (l, r) → l.length = k ∧ b = l.flatMap num ++ r ∧ ∀ n ∈ l, InI n
  | 0, b, r, l, h => by simp [rdN] at h; obtain ⟨rfl, rfl⟩ := h; simp
  | k + 1, b, r, l, h => by
    simp only [rdN] at h
    split at h
    · rename_i v r' h1
      simp only [Option.map_eq_some_iff, Prod.exists, Prod.mk.injEq] at h
      obtain ⟨l', r'', h2, rfl, rfl⟩ := h
      obtain ⟨e1, e2, e3⟩ := rdN_inv k r' r'' l' h2
      obtain ⟨e4, e5⟩ := rd_inv h1
      refine ⟨by simp [e1], by rw [e4, e2]; simp, fun n hn => ?_⟩
      rcases List.mem_cons.1 hn with rfl | hn
      · exact e5
      · exact e3 n hn
    · simp at h
theorem getL_put {l : List Int} (hl : l.length ≤ maxInts) (h : ∀ n ∈ l, InI n) : getL (putL l) = some l := by
  have hm : maxInts = 4000 := rfl
  unfold getL putL
  rw [rd_num ⟨by omega, by omega⟩]
  simp only
  rw [if_neg (by omega)]
  have := rdN_put l [] h
  rw [List.append_nil] at this
  rw [Int.toNat_natCast, this]
theorem getL_inv {b : Bs} {l : List Int} (h : getL b = some l) : l.length ≤ maxInts ∧ b = putL l ∧ ∀ n ∈ l, InI n := by
  unfold getL at h
  split at h
  · rename_i n r h1
    split at h
    · simp at h
    · rename_i h2
      split at h
      · rename_i l' h3
        simp only [Option.some.injEq] at h; subst h
        obtain ⟨e1, e2, e3⟩ := rdN_inv _ _ _ _ h3
        obtain ⟨e4, _⟩ := rd_inv h1
        refine ⟨by omega, ?_, e3⟩
        unfold putL
        rw [e4, e2, e1, List.append_nil]
        congr 2; omega
      · simp at h
  · simp at h

/-! ### Digests, frames -/
def fstep (d : Nat) (c : UInt8) : Nat := ((d ^^^ c.toNat) * 1099511628211) % 18446744073709551616
def fnv (b : Bs) : Nat := b.foldl fstep 14695981039346656037
def be8 (d : Nat) : Bs := (List.range 8).map fun i => UInt8.ofNat (d / 256 ^ (7 - i))
def be3 (n : Nat) : Bs := [UInt8.ofNat (n / 65536), UInt8.ofNat (n / 256), UInt8.ofNat n]
def sumB (b : Bs) : Bs := be8 (fnv b)
def headed (l : List Int) : Bs := be3 (putL l).length ++ putL l
def frame (l : List Int) : Bs := headed l ++ sumB (headed l)
theorem sumB_len (b : Bs) : (sumB b).length = 8 := by simp [sumB, be8]
theorem frame_len (l : List Int) : (frame l).length = (putL l).length + 11 := by simp [frame, headed, be3, sumB_len]
def n3 (b : Bs) : Nat := (b.getD 0 0).toNat * 65536 + (b.getD 1 0).toNat * 256 + (b.getD 2 0).toNat
/-- The list of the whole frame with which bytes begin, and how long it is. -/
def whole (b : Bs) : Option (List Int × Nat) :=
  if b.length < 11 then none else
  if b.length < n3 b + 11 then none else
  if sumB (b.take (n3 b + 3)) = (b.drop (n3 b + 3)).take 8 then (getL ((b.take (n3 b + 3)).drop 3)).map fun l => (l, n3 b + 11) else none
theorem flat_len : ∀ (l : List Int), (l.flatMap num).length ≤ 10 * l.length
  | [] => by simp
  | n :: l => by
    have := flat_len l
    have := num_len n
    simp only [List.flatMap_cons, List.length_append, List.length_cons]; omega
theorem putL_len {l : List Int} (h : l.length ≤ maxInts) : (putL l).length ≤ 40010 := by
  have := flat_len l
  have := num_len l.length
  have hm : maxInts = 4000 := rfl
  unfold putL; rw [List.length_append]; omega
theorem n3_be3 {n : Nat} (h : n < 16777216) (r : Bs) : n3 (be3 n ++ r) = n := by
  simp [n3, be3]; omega
theorem frame_n3 {l : List Int} (hl : l.length ≤ maxInts) (r : Bs) : n3 (frame l ++ r) = (putL l).length := by
  have := putL_len hl
  unfold frame headed
  rw [List.append_assoc, List.append_assoc]
  exact n3_be3 (by omega) _
theorem whole_frame {l : List Int} (hl : l.length ≤ maxInts) (h : ∀ n ∈ l, InI n) (r : Bs) : whole (frame l ++ r) = some (l, (frame l).length) := by
  have h1 := frame_len l
  have h2 := frame_n3 hl r
  have hh : (headed l).length = (putL l).length + 3 := by simp [headed, be3]
  have ht : (frame l ++ r).take ((putL l).length + 3) = headed l := by
    unfold frame; rw [List.append_assoc, List.take_append_of_le_length (by omega), ← hh, List.take_length]
  have hd : ((frame l ++ r).drop ((putL l).length + 3)).take 8 = sumB (headed l) := by
    unfold frame; rw [List.append_assoc, ← hh, List.drop_left, List.take_append_of_le_length (by simp [sumB_len]), ← sumB_len (headed l), List.take_length]
  unfold whole
  rw [h2, List.length_append, if_neg (by omega), if_neg (by omega), ht, hd, if_pos rfl]
  have : (headed l).drop 3 = putL l := by simp [headed, be3]
  rw [this, getL_put hl h, h1]; rfl
theorem be3_n3 {b : Bs} (h : 3 ≤ b.length) : b.take 3 = be3 (n3 b) := by
  match b, h with
  | x :: y :: z :: r, _ =>
    have hx := x.toNat_lt
    have hy := y.toNat_lt
    have hz := z.toNat_lt
    have e1 : UInt8.ofNat (x.toNat * 65536 + y.toNat * 256 + z.toNat) = z := by
      apply UInt8.toNat_inj.1; rw [UInt8.toNat_ofNat']; omega
    have e2 : UInt8.ofNat ((x.toNat * 65536 + y.toNat * 256 + z.toNat) / 256) = y := by
      apply UInt8.toNat_inj.1; rw [UInt8.toNat_ofNat']; omega
    have e3 : UInt8.ofNat ((x.toNat * 65536 + y.toNat * 256 + z.toNat) / 65536) = x := by
      apply UInt8.toNat_inj.1; rw [UInt8.toNat_ofNat']; omega
    simp [n3, be3, e1, e2, e3]
theorem whole_inv {b : Bs} {l : List Int} {n : Nat} (h : whole b = some (l, n)) : l.length ≤ maxInts ∧ (∀ m ∈ l, InI m) ∧ n = (frame l).length ∧ n ≤ b.length ∧ b.take n = frame l := by
  unfold whole at h
  split at h
  · simp at h
  · rename_i h1
    split at h
    · simp at h
    · rename_i h2
      split at h
      · rename_i h3
        simp only [Option.map_eq_some_iff, Prod.mk.injEq] at h
        obtain ⟨l', h4, rfl, rfl⟩ := h
        obtain ⟨e1, e2, e3⟩ := getL_inv h4
        have hp : (putL l').length = n3 b := by rw [← e2, List.length_drop, List.length_take]; omega
        have hb3 := be3_n3 (b := b) (by omega)
        have hh : b.take (n3 b + 3) = headed l' := by
          have q := (List.take_append_drop 3 (b.take (n3 b + 3))).symm
          rw [e2, List.take_take, Nat.min_eq_left (by omega), hb3, ← hp] at q
          unfold headed; rw [← hp]; exact q
        refine ⟨e1, e3, by rw [frame_len, hp], by omega, ?_⟩
        rw [show n3 b + 11 = (n3 b + 3) + 8 by omega, List.take_add, h3.symm, hh]; rfl
      · simp at h

/-- The integers of all whole frames with which bytes begin, and how many bytes these take. -/
def framesF : Nat → Bs → List (List Int) × Nat
  | 0, _ => ([], 0)
  | f + 1, b => match whole b with
    | some (l, n) => (l :: (framesF f (b.drop n)).1, n + (framesF f (b.drop n)).2)
    | none => ([], 0)
def frames (b : Bs) : List (List Int) × Nat := framesF (b.length + 1) b
theorem framesF_more : ∀ (f g : Nat) (b : Bs), b.length < f → b.length < g → framesF f b = framesF g b
  | 0, _, b, h, _ => by omega
  | _ + 1, 0, b, _, h => by omega
  | f + 1, g + 1, b, h, h' => by
    simp only [framesF]
    cases hw : whole b with
    | none => rfl
    | some p =>
      obtain ⟨l, n⟩ := p
      obtain ⟨_, _, e1, e2, _⟩ := whole_inv hw
      have hl := frame_len l
      have := framesF_more f g (b.drop n) (by simp; omega) (by simp; omega)
      simp only [this]
theorem frames_some {b : Bs} {l : List Int} {n : Nat} (h : whole b = some (l, n)) : frames b = (l :: (frames (b.drop n)).1, n + (frames (b.drop n)).2) := by
  obtain ⟨_, _, e1, e2, _⟩ := whole_inv h
  have hl := frame_len l
  unfold frames
  rw [framesF, h]
  simp only
  rw [framesF_more b.length ((b.drop n).length + 1) (b.drop n) (by simp; omega) (by simp)]
theorem frames_none {b : Bs} (h : whole b = none) : frames b = ([], 0) := by
  unfold frames; rw [framesF, h]
theorem frames_cons {l : List Int} (hl : l.length ≤ maxInts) (h : ∀ n ∈ l, InI n) (r : Bs) : frames (frame l ++ r) = (l :: (frames r).1, (frame l).length + (frames r).2) := by
  rw [frames_some (whole_frame hl h r), List.drop_left]

end Go.Jo
