/- What the walks use at every step: side conditions, operations that need no contract.  The codec and the journal in plain words: integers as bytes, frames, and what reading them gives. No program is in sight. Events as integers, and what is loaded, in plain words. No program is in sight. Contracts by content: what is well-formed, in the program and in the reference. No statement is proved here. -/
import Derived.Test.YtbneeinknlddaaaGreatQ3
import Derived.Test.YtbneeinknlddaaaGreatQ4
import Derived.Test.YtbneeinknlddaaaGreatQ5
import Derived.Test.YtbneeinknlddaaaGreatQ6
set_option linter.unusedVariables false
set_option linter.unusedSimpArgs false
namespace Go.Proofs.YtbneeinknlddaaaGreat
open Go.Ab
theorem nd {p : Prop} (h : p := by first | exact True.intro | exact hg) : p := h
theorem nds {p : Prop} (h : p := by first | exact True.intro | exact ⟨True.intro, True.intro⟩ | exact ⟨True.intro, True.intro, True.intro⟩ | (repeat' (first | exact True.intro | exact hg | refine ⟨?_, ?_⟩))) : p := h
theorem sd {p : Prop} (h : p := by first | exact True.intro | exact ⟨True.intro, True.intro, True.intro⟩ | exact hg | exact ⟨True.intro, True.intro⟩ | exact ⟨hg, hg, True.intro⟩ | (repeat' (first | exact True.intro | exact hg | omega | decide | refine ⟨?_, ?_⟩ | (intro h; change (_ == _) = true; rw [h]; rfl) | (intro h; change (_ && (_ == _)) = true; rw [zA2]; exact ⟨hg, by rw [h]; rfl⟩) | (exfalso; revert hg; simp; done) | (simp at hc; omega) | (exfalso; simp at hc; done) | (simp at hg; simp_all; done) | (simp at hg; simp_all; omega)))) : p := h
theorem std1 {o : Oper} {env : Env} {σ : Store} {v : AV} (h : PRun Tryz.prog o env σ v := by first
 | exact PRun.indexMW tabOk rfl rfl nd rfl nd rfl rfl (by omega)
 | exact PRun.lenM tabOk rfl rfl nd rfl
 | exact PRun.lenW tabOk rfl rfl nd rfl
 | exact PRun.binW rfl rfl nd rfl nd rfl
 | exact PRun.negWr rfl rfl nd
 | exact PRun.nilCheckP rfl rfl nd) : PRun Tryz.prog o env σ v := h
theorem std0 {o : Oper} {env : Env} {σ : Store} {v : AV} (h : PRun Tryz.prog o env σ v := by exact PRun.step tabOk rfl sd) : PRun Tryz.prog o env σ v := h
theorem iX {α : Type} [Inhabited α] (f : α → List AV) (l : List α) (i : Int) {x : α} {o : Oper} {env : Env} {σ : Store} (hx : l.getD i.toNat default = x) (h : ∀ _ : 0 ≤ i ∧ i < l.length, PRun Tryz.prog o env σ (.iptr (f (l.getD i.toNat default))) := by exact fun hb => PRun.indexMW tabOk rfl rfl nd rfl nd rfl rfl hb) (hb : 0 ≤ i ∧ i < l.length) : PRun Tryz.prog o env σ (.iptr (f x)) := hx ▸ h hb
theorem cdN {n : Nat} {K : Exit → Env → Store → Prop} {env : Env} {σ : Store} {t : Nat} {x y : Code} {v : Bool} {p q : Prop} (hv : rdv env (.tmp t) = some (.b v)) (hn : rdn env (.tmp t)) (ht : p → AWP Tryz.prog n x K env σ) (hf : q → AWP Tryz.prog n y K env σ) (c : (v = true → p) ∧ (v = false → q) := by first | exact ⟨fun h => of_decide_eq_true h, fun h => Int.not_lt.1 (of_decide_eq_false h)⟩ | exact ⟨fun h => of_decide_eq_true h, fun h => Int.not_le.1 (of_decide_eq_false h)⟩ | exact ⟨fun h => (h : (@BEq.beq _ _ _ _) = true), fun h => (h : (@BEq.beq _ _ _ _) = false)⟩ | exact ⟨fun h => of_decide_eq_true h, fun h => of_decide_eq_false h⟩ | exact ⟨fun h => h, fun h => h⟩) : AWP Tryz.prog n (.cond (.tmp t) x y) K env σ := AWP.condW hv hn (fun h => ht (c.1 h)) (fun h => hf (c.2 h))
theorem dd {C : Prop} (h : False := by first | (omega) | (simp at hc; done) | (simp at hc; omega) | (simp only [dEf, dEt] at hc; omega) | (rename_i h0; simp at h0; done) | (rename_i h0; simp at h0; omega) | fail) : C := h.elim
end Go.Proofs.YtbneeinknlddaaaGreat
namespace Go.Ab
theorem tI : True := True.intro
abbrev pcW := @PRun.callW
abbrev pbW := @PRun.callBW
abbrev rgK := @AWP.regionK
abbrev aoE := @AOps.e
abbrev stW := @EStep.storeW
abbrev aoN := @AOps.nil
abbrev alW := @EStep.allocW
abbrev cdW := @AWP.condW
abbrev blK := @AWP.block
abbrev sqW := @AWP.seq
abbrev bxW := @EStep.boxW
abbrev skW := @AWP.skip
abbrev rtW := @AWP.ret
abbrev dK2 := @AWP.drawK2
abbrev dL2 := @AWP.drawL2
abbrev aoQ := @AOps.q
abbrev exW := @AWP.exit
abbrev aqN := @AQ.nil
abbrev aqQ := @AQ.q
abbrev yqQ := @YQ.q
abbrev piW := @PRun.indexMW
abbrev pbD := @PRun.buildW
abbrev pbS := @PRun.buildSlW
abbrev scT := @EStep.callT
abbrev apO := @EStep.appendOwn'
abbrev lpD := @AWP.loopD
abbrev lpW := @AWP.loopW
abbrev nLr := @Nat.le_refl
abbrev nZl := @Nat.zero_le
abbrev nLg := @Nat.lt_or_ge
abbrev lLm := @List.length_map
abbrev lLa := @List.length_append
abbrev lMm := @List.mem_map
abbrev lGm := @List.getElem_mem
end Go.Ab
namespace Go.Jo
abbrev Bs := List UInt8
def zig (n : Int) : Nat := if 0 ≤ n then (2 * n).toNat else (-2 * n - 1).toNat
def unzig (u : Nat) : Int := if u % 2 = 0 then ((u / 2 : Nat) : Int) else -((u / 2 : Nat) : Int) - 1
theorem unzig_zig (n : Int) : unzig (zig n) = n := by
 unfold unzig zig
 split <;> split <;> omega
theorem zig_unzig (u : Nat) : zig (unzig u) = u := by
 unfold unzig zig
 split <;> split <;> omega
theorem zig_lt {n : Int} (h : -9223372036854775808 ≤ n ∧ n ≤ 9223372036854775807) : zig n < 18446744073709551616 := by
 unfold zig; split <;> omega
theorem unzig_in {u : Nat} (h : u < 18446744073709551616) : -9223372036854775808 ≤ unzig u ∧ unzig u ≤ 9223372036854775807 := by
 unfold unzig; split <;> omega
def lebF : Nat → Nat → Bs
 | 0, _ => []
 | f + 1, u => if u < 128 then [UInt8.ofNat u] else UInt8.ofNat (u % 128 + 128) :: lebF f (u / 128)
def leb (u : Nat) : Bs := lebF 10 u
def rdL : Bs → Nat → Nat → Option (Nat × Bs)
 | [], _, _ => none
 | c :: r, i, u => if (i = 9 ∧ 1 < c.toNat) ∨ 9 < i then none else
  if 127 < c.toNat then rdL r (i + 1) (u + c.toNat % 128 * 128 ^ i)
  else if c.toNat = 0 ∧ 0 < i then none else some (u + c.toNat % 128 * 128 ^ i, r)
def rd (b : Bs) : Option (Int × Bs) := (rdL b 0 0).map fun p => (unzig p.1, p.2)
theorem u8_toNat {k : Nat} (h : k < 256) : (UInt8.ofNat k).toNat = k := by
 simp [UInt8.toNat_ofNat']; omega
theorem rdL_leb : ∀ (f u i acc : Nat) (r : Bs), f + i = 10 → u * 128 ^ i < 18446744073709551616 → (0 < i → 0 < u) → rdL (lebF f u ++ r) i acc = if f = 0 then rdL r i acc else some (acc + u * 128 ^ i, r)
 | 0, u, i, acc, r, _, _, _ => by simp [lebF]
 | f + 1, u, i, acc, r, hf, hu, h0 => by
   have hi : i ≤ 9 := by omega
   have h9 : i = 9 → u < 2 := fun e => by subst e; simp at hu; omega
   simp only [lebF, Nat.add_eq_zero_iff, Nat.succ_ne_self, and_false, if_false]
   by_cases h : u < 128
   · simp only [if_pos h, zC5, zC6, rdL]
     rw [u8_toNat (by omega)]
     rw [if_neg (by omega), if_neg (by omega), if_neg (by omega), zCw h]
   · simp only [if_neg h, zC5, rdL]
     rw [u8_toNat (by omega)]
     have e : (u % 128 + 128) % 128 = u % 128 := by omega
     have hp : u / 128 * 128 ^ (i + 1) + u % 128 * 128 ^ i = u * 128 ^ i := by
      rw [Nat.pow_succ, zC3 (128 ^ i) 128, ← Nat.mul_assoc, ← zBc]
      congr 1; omega
     rw [if_neg (by omega), if_pos (by omega), e, rdL_leb f (u / 128) (i + 1) _ r (by omega) (by omega) (by omega), if_neg (by omega)]
     congr 2; omega
theorem rdL_inv : ∀ (b : Bs) (i acc v : Nat) (r : Bs), i ≤ 9 → rdL b i acc = some (v, r) → ∃ u, v = acc + u * 128 ^ i ∧ b = lebF (10 - i) u ++ r ∧ u * 128 ^ i < 18446744073709551616 ∧ (0 < i → 0 < u)
 | [], _, _, _, _, _, h => by simp [rdL] at h
 | c :: b, i, acc, v, r, hi, h => by
   have hc : c.toNat < 256 := c.toNat_lt
   simp only [rdL] at h
   split at h
   · simp at h
   · rename_i h1
     split at h
     · rename_i h2
       have hi8 : i ≤ 8 := by omega
       obtain ⟨u', e1, e2, e3, e4⟩ := rdL_inv b (i + 1) _ v r (by omega) h
       have hp : (c.toNat % 128 + 128 * u') * 128 ^ i = c.toNat % 128 * 128 ^ i + u' * 128 ^ (i + 1) := by
        rw [Nat.pow_succ, zBc, zC3 (128 ^ i) 128, ← Nat.mul_assoc, zC3 128 u']
       have hu' := e4 (by omega)
       refine ⟨c.toNat % 128 + 128 * u', by rw [hp, e1]; omega, ?_, ?_, fun _ => by omega⟩
       · obtain ⟨f, hf⟩ : ∃ f, 10 - i = f + 1 := ⟨9 - i, by omega⟩
         have hf' : 10 - (i + 1) = f := by omega
         rw [hf, lebF, if_neg (by omega), e2, hf']
         have g1 : (c.toNat % 128 + 128 * u') % 128 + 128 = c.toNat := by omega
         have g2 : (c.toNat % 128 + 128 * u') / 128 = u' := by omega
         rw [g1, g2, UInt8.ofNat_toNat]; rfl
       · rw [hp]
         obtain ⟨K, hK⟩ : ∃ K, 18446744073709551616 = K * 128 ^ (i + 1) := by
          refine ⟨18446744073709551616 / 128 ^ (i + 1), ?_⟩
          have hi' : i = 0 ∨ i = 1 ∨ i = 2 ∨ i = 3 ∨ i = 4 ∨ i = 5 ∨ i = 6 ∨ i = 7 ∨ i = 8 := by omega
          rcases hi' with rfl | rfl | rfl | rfl | rfl | rfl | rfl | rfl | rfl <;> decide
         rw [hK] at e3 ⊢
         have h5 := Nat.lt_of_mul_lt_mul_right e3
         have h6 := zB6 (128 ^ (i + 1)) (show u' + 1 ≤ K by omega)
         rw [zBc, zCz] at h6
         have h7 : c.toNat % 128 * 128 ^ i < 128 ^ (i + 1) := by
          rw [Nat.pow_succ, zC3 (128 ^ i)]
          exact Nat.mul_lt_mul_of_pos_right (by omega) (Nat.pow_pos (by omega))
         omega
     · rename_i h2
       split at h
       · simp at h
       · rename_i h3
         simp only [Option.some.injEq, Prod.mk.injEq] at h
         obtain ⟨rfl, rfl⟩ := h
         refine ⟨c.toNat, by rw [zCw (by omega)], ?_, ?_, fun _ => by omega⟩
         · obtain ⟨f, hf⟩ : ∃ f, 10 - i = f + 1 := ⟨9 - i, by omega⟩
           rw [hf, lebF, if_pos (by omega), UInt8.ofNat_toNat]; rfl
         · by_cases h9 : i = 9
           · subst h9; simp; omega
           · have h5 := Nat.mul_le_mul (show c.toNat ≤ 128 by omega) (zCs (show 0 < 128 by omega) (show i ≤ 8 by omega))
             have h6 : 128 * 128 ^ 8 < 18446744073709551616 := by decide
             omega
def InI (n : Int) : Prop := -9223372036854775808 ≤ n ∧ n ≤ 9223372036854775807
def num (n : Int) : Bs := leb (zig n)
theorem rd_num {n : Int} (h : InI n) (r : Bs) : rd (num n ++ r) = some (n, r) := by
 have := rdL_leb 10 (zig n) 0 0 r rfl (by simpa using zig_lt h) (by omega)
 unfold rd num leb
 rw [this]
 simp [unzig_zig]
theorem rd_inv {b r : Bs} {n : Int} (h : rd b = some (n, r)) : b = num n ++ r ∧ InI n := by
 unfold rd at h
 simp only [zA6, Prod.exists, Prod.mk.injEq] at h
 obtain ⟨v, r', h1, rfl, rfl⟩ := h
 obtain ⟨u, e1, e2, e3, _⟩ := rdL_inv b 0 0 v r' (by omega) h1
 simp at e1 e3
 subst e1
 refine ⟨?_, unzig_in e3⟩
 unfold num leb; rw [zig_unzig]; exact e2
theorem lebF_len : ∀ (f u : Nat), (lebF f u).length ≤ f
 | 0, _ => by simp [lebF]
 | f + 1, u => by
   have := lebF_len f (u / 128)
   unfold lebF; split <;> simp <;> omega
theorem lebF_pos (f u : Nat) : 1 ≤ (lebF (f + 1) u).length := by unfold lebF; split <;> simp
theorem num_len (n : Int) : 1 ≤ (num n).length ∧ (num n).length ≤ 10 := ⟨lebF_pos 9 _, lebF_len 10 _⟩
def putL (l : List Int) : Bs := num l.length ++ l.flatMap num
def rdN : Nat → Bs → Option (List Int × Bs)
 | 0, b => some ([], b)
 | n + 1, b => match rd b with
   | some (v, r) => (rdN n r).map fun p => (v :: p.1, p.2)
   | none => none
def maxInts : Nat := 4000
def getL (b : Bs) : Option (List Int) := match rd b with
 | some (n, r) => if n < 0 ∨ (maxInts : Int) < n then none else match rdN n.toNat r with
   | some (l, []) => some l
   | _ => none
 | none => none
theorem rdN_put : ∀ (l : List Int) (r : Bs), (∀ n ∈ l, InI n) → rdN l.length (l.flatMap num ++ r) = some (l, r)
 | [], r, _ => rfl
 | n :: l, r, h => by
   simp only [zA1, List.flatMap_cons, zBf, rdN]
   rw [rd_num (h n (zAn ..))]
   simp only
   rw [rdN_put l r fun m hm => h m (zAj _ hm)]
   rfl
theorem rdN_inv : ∀ (k : Nat) (b r : Bs) (l : List Int), rdN k b = some (l, r) → l.length = k ∧ b = l.flatMap num ++ r ∧ ∀ n ∈ l, InI n
 | 0, b, r, l, h => by simp [rdN] at h; obtain ⟨rfl, rfl⟩ := h; simp
 | k + 1, b, r, l, h => by
   simp only [rdN] at h
   split at h
   · rename_i v r' h1
     simp only [zA6, Prod.exists, Prod.mk.injEq] at h
     obtain ⟨l', r'', h2, rfl, rfl⟩ := h
     obtain ⟨e1, e2, e3⟩ := rdN_inv k r' r'' l' h2
     obtain ⟨e4, e5⟩ := rd_inv h1
     refine ⟨by simp [e1], by rw [e4, e2]; simp, fun n hn => ?_⟩
     rcases zB5.1 hn with rfl | hn
     · exact e5
     · exact e3 n hn
   · simp at h
theorem getL_put {l : List Int} (hl : l.length ≤ maxInts) (h : ∀ n ∈ l, InI n) : getL (putL l) = some l := by
 have hm : maxInts = 4000 := rfl
 unfold getL putL
 rw [rd_num ⟨by omega, by omega⟩]
 simp only
 rw [if_neg (by omega)]
 have := rdN_put l [] h
 rw [zBp] at this
 rw [zAh, this]
theorem getL_inv {b : Bs} {l : List Int} (h : getL b = some l) : l.length ≤ maxInts ∧ b = putL l ∧ ∀ n ∈ l, InI n := by
 unfold getL at h
 split at h
 · rename_i n r h1
   split at h
   · simp at h
   · rename_i h2
     split at h
     · rename_i l' h3
       simp only [Option.some.injEq] at h; subst h
       obtain ⟨e1, e2, e3⟩ := rdN_inv _ _ _ _ h3
       obtain ⟨e4, _⟩ := rd_inv h1
       refine ⟨by omega, ?_, e3⟩
       unfold putL
       rw [e4, e2, e1, zBp]
       congr 2; omega
     · simp at h
 · simp at h
def fstep (d : Nat) (c : UInt8) : Nat := ((d ^^^ c.toNat) * 1099511628211) % 18446744073709551616
def fnv (b : Bs) : Nat := b.foldl fstep 14695981039346656037
def be8 (d : Nat) : Bs := (List.range 8).map fun i => UInt8.ofNat (d / 256 ^ (7 - i))
def be3 (n : Nat) : Bs := [UInt8.ofNat (n / 65536), UInt8.ofNat (n / 256), UInt8.ofNat n]
def sumB (b : Bs) : Bs := be8 (fnv b)
def headed (l : List Int) : Bs := be3 (putL l).length ++ putL l
def frame (l : List Int) : Bs := headed l ++ sumB (headed l)
theorem sumB_len (b : Bs) : (sumB b).length = 8 := by simp [sumB, be8]
theorem frame_len (l : List Int) : (frame l).length = (putL l).length + 11 := by simp [frame, headed, be3, sumB_len]
def n3 (b : Bs) : Nat := (b.getD 0 0).toNat * 65536 + (b.getD 1 0).toNat * 256 + (b.getD 2 0).toNat
def whole (b : Bs) : Option (List Int × Nat) :=
 if b.length < 11 then none else
 if b.length < n3 b + 11 then none else
 if sumB (b.take (n3 b + 3)) = (b.drop (n3 b + 3)).take 8 then (getL ((b.take (n3 b + 3)).drop 3)).map fun l => (l, n3 b + 11) else none
theorem flat_len : ∀ (l : List Int), (l.flatMap num).length ≤ 10 * l.length
 | [] => by simp
 | n :: l => by
   have := flat_len l
   have := num_len n
   simp only [List.flatMap_cons, zAt, zA1]; omega
theorem putL_len {l : List Int} (h : l.length ≤ maxInts) : (putL l).length ≤ 40010 := by
 have := flat_len l
 have := num_len l.length
 have hm : maxInts = 4000 := rfl
 unfold putL; rw [zAt]; omega
theorem n3_be3 {n : Nat} (h : n < 16777216) (r : Bs) : n3 (be3 n ++ r) = n := by
 simp [n3, be3]; omega
theorem frame_n3 {l : List Int} (hl : l.length ≤ maxInts) (r : Bs) : n3 (frame l ++ r) = (putL l).length := by
 have := putL_len hl
 unfold frame headed
 rw [zBf, zBf]
 exact n3_be3 (by omega) _
theorem whole_frame {l : List Int} (hl : l.length ≤ maxInts) (h : ∀ n ∈ l, InI n) (r : Bs) : whole (frame l ++ r) = some (l, (frame l).length) := by
 have h1 := frame_len l
 have h2 := frame_n3 hl r
 have hh : (headed l).length = (putL l).length + 3 := by simp [headed, be3]
 have ht : (frame l ++ r).take ((putL l).length + 3) = headed l := by
  unfold frame; rw [zBf, List.take_append_of_le_length (by omega), ← hh, zB1]
 have hd : ((frame l ++ r).drop ((putL l).length + 3)).take 8 = sumB (headed l) := by
  unfold frame; rw [zBf, ← hh, List.drop_left, List.take_append_of_le_length (by simp [sumB_len]), ← sumB_len (headed l), zB1]
 unfold whole
 rw [h2, zAt, if_neg (by omega), if_neg (by omega), ht, hd, if_pos rfl]
 have : (headed l).drop 3 = putL l := by simp [headed, be3]
 rw [this, getL_put hl h, h1]; rfl
theorem be3_n3 {b : Bs} (h : 3 ≤ b.length) : b.take 3 = be3 (n3 b) := by
 match b, h with
 | x :: y :: z :: r, _ =>
   have hx := x.toNat_lt
   have hy := y.toNat_lt
   have hz := z.toNat_lt
   have e1 : UInt8.ofNat (x.toNat * 65536 + y.toNat * 256 + z.toNat) = z := by
    apply UInt8.toNat_inj.1; rw [UInt8.toNat_ofNat']; omega
   have e2 : UInt8.ofNat ((x.toNat * 65536 + y.toNat * 256 + z.toNat) / 256) = y := by
    apply UInt8.toNat_inj.1; rw [UInt8.toNat_ofNat']; omega
   have e3 : UInt8.ofNat ((x.toNat * 65536 + y.toNat * 256 + z.toNat) / 65536) = x := by
    apply UInt8.toNat_inj.1; rw [UInt8.toNat_ofNat']; omega
   simp [n3, be3, e1, e2, e3]
theorem whole_inv {b : Bs} {l : List Int} {n : Nat} (h : whole b = some (l, n)) : l.length ≤ maxInts ∧ (∀ m ∈ l, InI m) ∧ n = (frame l).length ∧ n ≤ b.length ∧ b.take n = frame l := by
 unfold whole at h
 split at h
 · simp at h
 · rename_i h1
   split at h
   · simp at h
   · rename_i h2
     split at h
     · rename_i h3
       simp only [zA6, Prod.mk.injEq] at h
       obtain ⟨l', h4, rfl, rfl⟩ := h
       obtain ⟨e1, e2, e3⟩ := getL_inv h4
       have hp : (putL l').length = n3 b := by rw [← e2, zAg, zAk]; omega
       have hb3 := be3_n3 (b := b) (by omega)
       have hh : b.take (n3 b + 3) = headed l' := by
        have q := (zCb 3 (b.take (n3 b + 3))).symm
        rw [e2, List.take_take, Nat.min_eq_left (by omega), hb3, ← hp] at q
        unfold headed; rw [← hp]; exact q
       refine ⟨e1, e3, by rw [frame_len, hp], by omega, ?_⟩
       rw [show n3 b + 11 = (n3 b + 3) + 8 by omega, List.take_add, h3.symm, hh]; rfl
     · simp at h
def framesF : Nat → Bs → List (List Int) × Nat
 | 0, _ => ([], 0)
 | f + 1, b => match whole b with
   | some (l, n) => (l :: (framesF f (b.drop n)).1, n + (framesF f (b.drop n)).2)
   | none => ([], 0)
def frames (b : Bs) : List (List Int) × Nat := framesF (b.length + 1) b
theorem framesF_more : ∀ (f g : Nat) (b : Bs), b.length < f → b.length < g → framesF f b = framesF g b
 | 0, _, b, h, _ => by omega
 | _ + 1, 0, b, _, h => by omega
 | f + 1, g + 1, b, h, h' => by
   simp only [framesF]
   cases hw : whole b with
   | none => rfl
   | some p =>
     obtain ⟨l, n⟩ := p
     obtain ⟨_, _, e1, e2, _⟩ := whole_inv hw
     have hl := frame_len l
     have := framesF_more f g (b.drop n) (by simp; omega) (by simp; omega)
     simp only [this]
theorem frames_some {b : Bs} {l : List Int} {n : Nat} (h : whole b = some (l, n)) : frames b = (l :: (frames (b.drop n)).1, n + (frames (b.drop n)).2) := by
 obtain ⟨_, _, e1, e2, _⟩ := whole_inv h
 have hl := frame_len l
 unfold frames
 rw [framesF, h]
 simp only
 rw [framesF_more b.length ((b.drop n).length + 1) (b.drop n) (by simp; omega) (by simp)]
theorem frames_none {b : Bs} (h : whole b = none) : frames b = ([], 0) := by
 unfold frames; rw [framesF, h]
theorem frames_cons {l : List Int} (hl : l.length ≤ maxInts) (h : ∀ n ∈ l, InI n) (r : Bs) : frames (frame l ++ r) = (l :: (frames r).1, (frame l).length + (frames r).2) := by
 rw [frames_some (whole_frame hl h r), List.drop_left]
def inR (n lo hi : Int) : Bool := decide (lo ≤ n) && decide (n ≤ hi)
theorem inR_iff {n lo hi : Int} : inR n lo hi = true ↔ lo ≤ n ∧ n ≤ hi := by simp [inR]
def isId (n : Int) : Bool := inR n 1 1000000
structure Rdr where
 part : Int
 desk : Int
 seat : Int
 deriving DecidableEq, Inhabited
structure Mark where
 id : Int
 kind : Int
 layer : Int
 who : Rdr
 version : Int
 note : Int
 value : Int
 text : Bs
 deriving DecidableEq, Inhabited
structure Ev where
 clock : Int
 stand : Int
 kind : Int
 n : Int
 mark : Mark
 deriving DecidableEq, Inhabited
def noMark : Mark := ⟨0, 0, 0, ⟨0, 0, 0⟩, 0, 0, 0, []⟩
def noEv : Ev := ⟨0, 0, 0, 0, noMark⟩
def isRdr (r : Rdr) : Bool := isId r.part && inR r.desk 1 40 && inR r.seat 1 4
def byOk (layer : Int) (r : Rdr) : Bool :=
 if layer = 1 then isRdr r else if layer = 2 then isId r.part && inR r.desk 1 40 && r.seat == 0 else if layer = 3 then inR r.part 0 99 && r.desk == 0 && r.seat == 0 else
 if layer = 4 then r.part == 0 && r.desk == 0 && r.seat == 0 else false
def textOk (t : Bs) : Bool := decide (t.length ≤ 200) && t.all fun c => decide (32 ≤ c.toNat) && decide (c.toNat ≤ 126)
def markOk (m : Mark) : Bool := textOk m.text && byOk m.layer m.who && isId m.id && isId m.version && isId m.note && inR m.kind 1 5 && inR m.value 0 1000 && (m.kind != 1 || decide (m.value ≤ 2))
def evOk (e : Ev) : Bool := inR e.clock 0 1000000000 && isId e.stand &&
 (if e.kind = 1 then markOk e.mark && e.n == 0 else if e.kind = 2 then isId e.n && e.mark == noMark else if e.kind = 3 then inR e.n 0 1000 && e.mark == noMark else false)
def txt (t : Bs) : List Int := t.map fun c => (c.toNat : Int)
def ints (e : Ev) : List Int := [e.clock, e.stand, e.kind] ++
 if e.kind = 1 then [e.mark.id, e.mark.kind, e.mark.layer, e.mark.who.part, e.mark.who.desk, e.mark.who.seat, e.mark.version, e.mark.note, e.mark.value] ++ txt e.mark.text else [e.n]
def untxt (l : List Int) : Bs := l.map fun n => UInt8.ofNat n.toNat
def rawEv (l : List Int) : Ev :=
 if l.getD 2 0 = 1 then ⟨l.getD 0 0, l.getD 1 0, 1, 0, ⟨l.getD 3 0, l.getD 4 0, l.getD 5 0, ⟨l.getD 6 0, l.getD 7 0, l.getD 8 0⟩, l.getD 9 0, l.getD 10 0, l.getD 11 0, untxt (l.drop 12)⟩⟩
 else ⟨l.getD 0 0, l.getD 1 0, l.getD 2 0, l.getD 3 0, noMark⟩
def formOk (l : List Int) : Bool := decide (4 ≤ l.length) && decide (l.length ≤ 212) &&
 if l.getD 2 0 = 1 then decide (12 ≤ l.length) && (l.drop 12).all (fun n => inR n 32 126) else decide (l.length = 4)
def event (l : List Int) : Option Ev := if formOk l && evOk (rawEv l) then some (rawEv l) else none
theorem untxt_txt (t : Bs) : untxt (txt t) = t := by
 unfold untxt txt
 rw [List.map_map]
 conv => rhs; rw [← List.map_id t]
 exact List.map_congr_left fun c _ => by simp
theorem txt_untxt {l : List Int} (h : l.all (fun n => inR n 32 126) = true) : txt (untxt l) = l := by
 unfold untxt txt
 rw [List.map_map]
 conv => rhs; rw [← List.map_id l]
 refine List.map_congr_left fun n hn => ?_
 have := inR_iff.1 (zAb.1 h n hn)
 simp [UInt8.toNat_ofNat']; omega
theorem textOk_iff {t : Bs} : textOk t = true ↔ t.length ≤ 200 ∧ ∀ c ∈ t, 32 ≤ c.toNat ∧ c.toNat ≤ 126 := by
 simp [textOk]
theorem ints_len {e : Ev} (h : evOk e = true) : 4 ≤ (ints e).length ∧ (ints e).length ≤ 212 := by
 unfold ints
 split
 · rename_i hk
   have h1 : textOk e.mark.text = true := by
    simp only [evOk, hk, if_true, zA2, markOk] at h
    exact h.2.1.1.1.1.1.1.1.1
   have := (textOk_iff.1 h1).1
   simp [txt]; omega
 · simp
theorem event_ints {e : Ev} (h : evOk e = true) : event (ints e) = some e := by
 obtain ⟨clock, stand, kind, n, m⟩ := e
 by_cases hk : kind = 1
 · subst hk
   have h0 := h
   simp only [evOk, if_true, zA2, markOk, beq_iff_eq] at h0
   have h1 := textOk_iff.1 h0.2.1.1.1.1.1.1.1.1
   have hn : n = 0 := h0.2.2
   subst hn
   have hr : rawEv (ints ⟨clock, stand, 1, 0, m⟩) = ⟨clock, stand, 1, 0, m⟩ := by
    simp [rawEv, ints, untxt_txt]
   unfold event
   rw [hr, h]
   have hf : formOk (ints ⟨clock, stand, 1, 0, m⟩) = true := by
    simp only [formOk, ints, if_true, zC5, zC6, zA1, txt, zBw, List.getD_cons_succ, List.getD_cons_zero, List.drop_succ_cons, zCu, zA2, dEt, zAb, zC1, forall_exists_index, and_imp, forall_apply_eq_imp_iff₂, inR_iff]
    refine ⟨⟨by omega, by omega⟩, by omega, fun c hc => ?_⟩
    have := h1.2 c hc
    omega
   rw [hf]; rfl
 · have hm : m = noMark := by
    simp only [evOk, hk, if_false, zA2] at h
    obtain ⟨_, h⟩ := h
    split at h
    · simp at h; exact h.2
    · split at h
      · simp at h; exact h.2
      · simp at h
   subst hm
   have hr : rawEv (ints ⟨clock, stand, kind, n, noMark⟩) = ⟨clock, stand, kind, n, noMark⟩ := by
    simp [rawEv, ints, hk]
   unfold event
   rw [hr, h]
   have hf : formOk (ints ⟨clock, stand, kind, n, noMark⟩) = true := by simp [formOk, ints, hk]
   rw [hf]; rfl
theorem event_inv {l : List Int} {e : Ev} (h : event l = some e) : evOk e = true ∧ ints e = l := by
 unfold event at h
 split at h
 · rename_i h1
   simp only [zA2] at h1
   simp only [Option.some.injEq] at h
   subst h
   refine ⟨h1.2, ?_⟩
   obtain ⟨hf, _⟩ := h1
   unfold formOk at hf
   simp only [zA2, dEt] at hf
   obtain ⟨⟨h4, _⟩, hf⟩ := hf
   unfold rawEv
   split
   · rename_i hk
     rw [if_pos hk] at hf
     simp only [zA2, dEt] at hf
     obtain ⟨h12, hall⟩ := hf
     have ht := txt_untxt hall
     simp only [ints, if_true, ht]
     match l, h12, hk with
     | a :: b :: c :: d :: e :: f :: g :: i :: j :: k :: m :: n :: r, _, hk => simp at hk; simp [hk]
   · rename_i hk
     rw [if_neg hk] at hf
     simp only [dEt] at hf
     simp only [ints, hk, if_false]
     match l, hf with
     | [a, b, c, d], _ => simp
 · simp at h
theorem ints_in {e : Ev} (h : evOk e = true) : ∀ n ∈ ints e, InI n ∧ -1000000000 ≤ n ∧ n ≤ 1000000000 := by
 obtain ⟨clock, stand, kind, n, m⟩ := e
 intro x hx
 have key : -1000000000 ≤ x ∧ x ≤ 1000000000 := by
  by_cases hk : kind = 1
  · subst hk
    simp only [evOk, if_true, zA2, markOk, inR_iff, isId, zAx, beq_iff_eq] at h
    simp only [ints, if_true, zC5, zC6, zB5, txt, zC1] at hx
    have hby : (0 ≤ m.who.part ∧ m.who.part ≤ 1000000) ∧ (0 ≤ m.who.desk ∧ m.who.desk ≤ 40) ∧ (0 ≤ m.who.seat ∧ m.who.seat ≤ 4) ∧ 1 ≤ m.layer ∧ m.layer ≤ 4 := by
     have hb := h.2.1.1.1.1.1.1.1.2
     unfold byOk at hb
     split at hb
     · simp only [isRdr, isId, zA2, inR_iff] at hb; omega
     · split at hb
       · simp only [isId, zA2, inR_iff, beq_iff_eq] at hb; omega
       · split at hb
         · simp only [zA2, inR_iff, beq_iff_eq] at hb; omega
         · split at hb
           · simp only [zA2, beq_iff_eq] at hb; omega
           · simp at hb
    rcases hx with rfl | rfl | rfl | rfl | rfl | rfl | rfl | rfl | rfl | rfl | rfl | rfl | ⟨c, hc, rfl⟩
    all_goals first | omega | skip
    have := c.toNat_lt
    omega
  · simp only [evOk, hk, if_false, zA2, inR_iff, isId] at h
    simp only [ints, hk, if_false, zC5, zC6, zB5, zC8, or_false] at hx
    obtain ⟨h1, h⟩ := h
    split at h
    · simp only [zA2, inR_iff] at h; omega
    · split at h
      · simp only [zA2, inR_iff] at h; omega
      · simp at h
 exact ⟨⟨by omega, by omega⟩, key⟩
def fr (e : Ev) : Bs := frame (ints e)
def cat (l : List Ev) : Bs := l.flatMap fr
def loadL : List (List Int) → List Ev × Nat
 | [] => ([], 0)
 | l :: r => match event l with
   | some e => (e :: (loadL r).1, (frame l).length + (loadL r).2)
   | none => ([], 0)
def load (b : Bs) : List Ev × Nat := loadL (frames b).1
theorem fr_ok {e : Ev} (h : evOk e = true) : (ints e).length ≤ maxInts ∧ ∀ n ∈ ints e, InI n := ⟨by have := (ints_len h).2; have : maxInts = 4000 := rfl; omega, fun n hn => (ints_in h n hn).1⟩
theorem load_cons {e : Ev} (h : evOk e = true) (r : Bs) : load (fr e ++ r) = (e :: (load r).1, (fr e).length + (load r).2) := by
 unfold load fr
 rw [frames_cons (fr_ok h).1 (fr_ok h).2]
 simp only [loadL, event_ints h]
theorem load_none {b : Bs} (h : whole b = none) : load b = ([], 0) := by
 unfold load; rw [frames_none h]; rfl
theorem load_nil : load [] = ([], 0) := load_none rfl
theorem load_cat : ∀ (l : List Ev) (r : Bs), (∀ e ∈ l, evOk e = true) → load (cat l ++ r) = (l ++ (load r).1, (cat l).length + (load r).2)
 | [], r, _ => by simp [cat]
 | e :: l, r, h => by
   have h1 := load_cat l r fun x hx => h x (zAj _ hx)
   have e1 : cat (e :: l) = fr e ++ cat l := by simp [cat]
   rw [e1, zBf, load_cons (h e (zAn ..)), h1]
   simp; omega
theorem load_inv (b : Bs) : ∀ k, b.length ≤ k → (∀ e ∈ (load b).1, evOk e = true) ∧ b.take (load b).2 = cat (load b).1 ∧ (load b).2 = (cat (load b).1).length ∧ (load b).2 ≤ b.length := by
 intro k
 induction k generalizing b with
 | zero =>
   intro h
   have : b = [] := zCh.1 (by omega)
   subst this
   simp [load_nil, cat]
 | succ k ih =>
   intro h
   cases hw : whole b with
   | none => simp [load_none hw, cat]
   | some p =>
     obtain ⟨l, n⟩ := p
     obtain ⟨_, _, e1, e2, e3⟩ := whole_inv hw
     have hl := frame_len l
     unfold load
     rw [frames_some hw]
     simp only [loadL]
     cases he : event l with
     | none => simp [cat]
     | some e =>
       obtain ⟨g1, g2⟩ := event_inv he
       have hrec := ih (b.drop n) (by rw [zAg]; omega)
       unfold load at hrec
       obtain ⟨r1, r2, r3, r4⟩ := hrec
       have hc : ∀ L, cat (e :: L) = frame l ++ cat L := fun L => by simp [cat, fr, g2]
       simp only
       refine ⟨fun x hx => ?_, ?_, ?_, ?_⟩
       · rcases zB5.1 hx with rfl | hx
         · exact g1
         · exact r1 x hx
       · rw [hc, ← e1, List.take_add, e3, r2]
       · rw [hc, zAt, ← r3]
       · rw [zAg] at r4
         omega
theorem whole_short {l : List Int} (hl : l.length ≤ maxInts) (r : Bs) {k : Nat} (hk : k < (frame l).length) : whole ((frame l ++ r).take k) = none := by
 have hf := frame_len l
 unfold whole
 split
 · rfl
 · rename_i h1
   rw [zAk, zAt] at h1
   have h3 : n3 ((frame l ++ r).take k) = n3 (frame l ++ r) := by
    unfold n3
    have g : ∀ i, i < 3 → ((frame l ++ r).take k).getD i 0 = (frame l ++ r).getD i 0 := fun i hi => by
     rw [zC7, zC7, zB7, if_pos (by omega)]
    rw [g 0 (by omega), g 1 (by omega), g 2 (by omega)]
   rw [h3, frame_n3 hl, if_pos (by rw [zAk, zAt]; omega)]
def upto : List Ev → Nat → Nat × Nat
 | [], _ => (0, 0)
 | e :: l, k => if (fr e).length ≤ k then (1 + (upto l (k - (fr e).length)).1, (fr e).length + (upto l (k - (fr e).length)).2) else (0, 0)
theorem load_take : ∀ (l : List Ev) (k : Nat), (∀ e ∈ l, evOk e = true) → k ≤ (cat l).length → load ((cat l).take k) = (l.take (upto l k).1, (upto l k).2)
 | [], k, _, _ => by simp [cat, load_nil, upto]
 | e :: l, k, h, hk => by
   have e1 : cat (e :: l) = fr e ++ cat l := by simp [cat]
   have he := h e (zAn ..)
   unfold upto
   split
   · rename_i hle
     rw [e1, zAt] at hk
     have h1 := load_take l (k - (fr e).length) (fun x hx => h x (zAj _ hx)) (by omega)
     rw [e1, List.take_append, zBd hle, load_cons he, h1]
     simp [zCe 1]
   · rename_i hlt
     rw [e1]
     have := load_none (whole_short (fr_ok he).1 (cat l) (k := k) (by unfold fr at hlt; omega))
     unfold fr; rw [this]; rfl
def fnvF (d : Nat) (b : Bs) : Nat := b.foldl fstep d
theorem fstep_lt (d : Nat) (c : UInt8) : fstep d c < 18446744073709551616 := by unfold fstep; exact zCo _ (by decide)
theorem fnvF_lt : ∀ (b : Bs) (d : Nat), d < 18446744073709551616 → fnvF d b < 18446744073709551616
 | [], d, h => h
 | c :: b, d, h => fnvF_lt b _ (fstep_lt d c)
theorem fnv_lt (b : Bs) : fnv b < 18446744073709551616 := fnvF_lt b _ (by decide)
end Go.Jo
namespace Go.Ab
abbrev AV.bs (t : List UInt8) : AV := .str ⟨t.toArray⟩
end Go.Ab
namespace Go.Proofs.YtbneeinknlddaaaGreat
open Go.Ab Go.Jo
attribute [local irreducible] AWP AOps EStep AQ PStep PRun PCall TCall VCall
def encRd (r : Rdr) : List AV := [.int r.part, .int r.desk, .int r.seat]
def encM (m : Jo.Mark) : List AV := [.int m.id, .int m.kind, .int m.layer, .int m.who.part, .int m.who.desk, .int m.who.seat, .int m.version, .int m.note, .int m.value, .bs m.text]
def encE (e : Ev) : List AV := [.int e.clock, .int e.stand, .int e.kind, .int e.n, .int e.mark.id, .int e.mark.kind, .int e.mark.layer, .int e.mark.who.part, .int e.mark.who.desk, .int e.mark.who.seat, .int e.mark.version, .int e.mark.note, .int e.mark.value, .bs e.mark.text]
theorem in22_spec (a b c : Int) : PCall Tryz.prog 68 [.int a, .int b, .int c] (.b (inR a b c)) := by
 refine PCall.body Tryz.func68 rfl rfl Tryz.ntmps68 rfl rfl ?_
 repeat' (first | refine aoQ rfl rfl rfl (fun hg => by first | exact std0 | exact std1) (by exact rfl) ?_ | refine sqW ?_ | refine rgK (fun K' hK => ?_) | (refine aoN (hK _ _ ?_); clear hK K') | refine aoE (bxW rfl rfl rfl rfl rfl tI rfl rfl ?_) | refine aoE (stW tabOk rfl rfl rfl tI rfl rfl tI rfl rfl rfl rfl rfl rfl rfl ?_) | refine aoE (alW tabOk rfl rfl rfl rfl rfl rfl ?_) | refine cdN rfl tI (fun hc => ?_) (fun hc => ?_) | refine blK ?_ | refine exW ?_ | refine skW ?_ | refine rtW ?_ | refine dK2 (by decide +kernel) (by kernel_rfl) (by decide +kernel) rfl (fun K' hK => ?_) | refine dL2 (by kernel_rfl) (by decide +kernel) rfl (fun K' hK => ?_) | (refine aqN (hK _ ?_); clear hK K') | refine aqN ?_ | refine aqQ rfl rfl (fun hg => by first | exact std0 | exact std1) (by exact rfl) ?_)
 exact ⟨.inr rfl, Ent.b rfl⟩
theorem in19_spec (a b c : Int) : PCall Tryz.prog 43 [.int a, .int b, .int c] (.b (inR a b c)) := by
 refine PCall.body Tryz.func43 rfl rfl Tryz.ntmps43 rfl rfl ?_
 repeat' (first | refine aoQ rfl rfl rfl (fun hg => by first | exact std0 | exact std1) (by exact rfl) ?_ | refine sqW ?_ | refine rgK (fun K' hK => ?_) | (refine aoN (hK _ _ ?_); clear hK K') | refine aoE (bxW rfl rfl rfl rfl rfl tI rfl rfl ?_) | refine aoE (stW tabOk rfl rfl rfl tI rfl rfl tI rfl rfl rfl rfl rfl rfl rfl ?_) | refine aoE (alW tabOk rfl rfl rfl rfl rfl rfl ?_) | refine cdN rfl tI (fun hc => ?_) (fun hc => ?_) | refine blK ?_ | refine exW ?_ | refine skW ?_ | refine rtW ?_ | refine dK2 (by decide +kernel) (by kernel_rfl) (by decide +kernel) rfl (fun K' hK => ?_) | refine dL2 (by kernel_rfl) (by decide +kernel) rfl (fun K' hK => ?_) | (refine aqN (hK _ ?_); clear hK K') | refine aqN ?_ | refine aqQ rfl rfl (fun hg => by first | exact std0 | exact std1) (by exact rfl) ?_)
 exact ⟨.inr rfl, Ent.b rfl⟩
theorem ewithin_spec (a b c : Int) : PCall Tryz.prog 73 [.int a, .int b, .int c] (.b (inR a b c)) := by
 refine PCall.body Tryz.func73 rfl rfl Tryz.ntmps73 rfl rfl ?_
 repeat' (first | refine aoQ rfl rfl rfl (fun hg => by first | exact std0 | exact std1) (by exact rfl) ?_ | refine sqW ?_ | refine rgK (fun K' hK => ?_) | (refine aoN (hK _ _ ?_); clear hK K') | refine aoE (bxW rfl rfl rfl rfl rfl tI rfl rfl ?_) | refine aoE (stW tabOk rfl rfl rfl tI rfl rfl tI rfl rfl rfl rfl rfl rfl rfl ?_) | refine aoE (alW tabOk rfl rfl rfl rfl rfl rfl ?_) | refine cdN rfl tI (fun hc => ?_) (fun hc => ?_) | refine blK ?_ | refine exW ?_ | refine skW ?_ | refine rtW ?_ | refine dK2 (by decide +kernel) (by kernel_rfl) (by decide +kernel) rfl (fun K' hK => ?_) | refine dL2 (by kernel_rfl) (by decide +kernel) rfl (fun K' hK => ?_) | (refine aqN (hK _ ?_); clear hK K') | refine aqN ?_ | refine aqQ rfl rfl (fun hg => by first | exact std0 | exact std1) (by exact rfl) ?_)
 exact ⟨.inr rfl, Ent.b rfl⟩
theorem mwithin_spec (a b c : Int) : PCall Tryz.prog 91 [.int a, .int b, .int c] (.b (inR a b c)) := by
 refine PCall.body Tryz.func91 rfl rfl Tryz.ntmps91 rfl rfl ?_
 repeat' (first | refine aoQ rfl rfl rfl (fun hg => by first | exact std0 | exact std1) (by exact rfl) ?_ | refine sqW ?_ | refine rgK (fun K' hK => ?_) | (refine aoN (hK _ _ ?_); clear hK K') | refine aoE (bxW rfl rfl rfl rfl rfl tI rfl rfl ?_) | refine aoE (stW tabOk rfl rfl rfl tI rfl rfl tI rfl rfl rfl rfl rfl rfl rfl ?_) | refine aoE (alW tabOk rfl rfl rfl rfl rfl rfl ?_) | refine cdN rfl tI (fun hc => ?_) (fun hc => ?_) | refine blK ?_ | refine exW ?_ | refine skW ?_ | refine rtW ?_ | refine dK2 (by decide +kernel) (by kernel_rfl) (by decide +kernel) rfl (fun K' hK => ?_) | refine dL2 (by kernel_rfl) (by decide +kernel) rfl (fun K' hK => ?_) | (refine aqN (hK _ ?_); clear hK K') | refine aqN ?_ | refine aqQ rfl rfl (fun hg => by first | exact std0 | exact std1) (by exact rfl) ?_)
 exact ⟨.inr rfl, Ent.b rfl⟩
theorem id19_spec (a : Int) : PCall Tryz.prog 42 [.int a] (.b (isId a)) := by
 refine PCall.body Tryz.func42 rfl rfl Tryz.ntmps42 rfl rfl ?_
 repeat' (first | refine aoQ rfl rfl rfl (fun hg => by first | exact std0 | exact pcW (in19_spec _ _ _) rfl rfl nd rfl nds | exact std1) (by exact rfl) ?_ | refine sqW ?_ | refine rgK (fun K' hK => ?_) | (refine aoN (hK _ _ ?_); clear hK K') | refine aoE (bxW rfl rfl rfl rfl rfl tI rfl rfl ?_) | refine aoE (stW tabOk rfl rfl rfl tI rfl rfl tI rfl rfl rfl rfl rfl rfl rfl ?_) | refine aoE (alW tabOk rfl rfl rfl rfl rfl rfl ?_) | refine cdN rfl tI (fun hc => ?_) (fun hc => ?_) | refine blK ?_ | refine exW ?_ | refine skW ?_ | refine rtW ?_ | refine dK2 (by decide +kernel) (by kernel_rfl) (by decide +kernel) rfl (fun K' hK => ?_) | refine dL2 (by kernel_rfl) (by decide +kernel) rfl (fun K' hK => ?_) | (refine aqN (hK _ ?_); clear hK K') | refine aqN ?_ | refine aqQ rfl rfl (fun hg => by first | exact std0 | exact pcW (in19_spec _ _ _) rfl rfl nd rfl nds | exact std1) (by exact rfl) ?_)
 exact ⟨.inr rfl, Ent.b rfl⟩
theorem eid_spec (a : Int) : PCall Tryz.prog 72 [.int a] (.b (isId a)) := by
 refine PCall.body Tryz.func72 rfl rfl Tryz.ntmps72 rfl rfl ?_
 repeat' (first | refine aoQ rfl rfl rfl (fun hg => by first | exact std0 | exact pcW (ewithin_spec _ _ _) rfl rfl nd rfl nds | exact std1) (by exact rfl) ?_ | refine sqW ?_ | refine rgK (fun K' hK => ?_) | (refine aoN (hK _ _ ?_); clear hK K') | refine aoE (bxW rfl rfl rfl rfl rfl tI rfl rfl ?_) | refine aoE (stW tabOk rfl rfl rfl tI rfl rfl tI rfl rfl rfl rfl rfl rfl rfl ?_) | refine aoE (alW tabOk rfl rfl rfl rfl rfl rfl ?_) | refine cdN rfl tI (fun hc => ?_) (fun hc => ?_) | refine blK ?_ | refine exW ?_ | refine skW ?_ | refine rtW ?_ | refine dK2 (by decide +kernel) (by kernel_rfl) (by decide +kernel) rfl (fun K' hK => ?_) | refine dL2 (by kernel_rfl) (by decide +kernel) rfl (fun K' hK => ?_) | (refine aqN (hK _ ?_); clear hK K') | refine aqN ?_ | refine aqQ rfl rfl (fun hg => by first | exact std0 | exact pcW (ewithin_spec _ _ _) rfl rfl nd rfl nds | exact std1) (by exact rfl) ?_)
 exact ⟨.inr rfl, Ent.b rfl⟩
theorem mid_spec (a : Int) : PCall Tryz.prog 90 [.int a] (.b (isId a)) := by
 refine PCall.body Tryz.func90 rfl rfl Tryz.ntmps90 rfl rfl ?_
 repeat' (first | refine aoQ rfl rfl rfl (fun hg => by first | exact std0 | exact pcW (mwithin_spec _ _ _) rfl rfl nd rfl nds | exact std1) (by exact rfl) ?_ | refine sqW ?_ | refine rgK (fun K' hK => ?_) | (refine aoN (hK _ _ ?_); clear hK K') | refine aoE (bxW rfl rfl rfl rfl rfl tI rfl rfl ?_) | refine aoE (stW tabOk rfl rfl rfl tI rfl rfl tI rfl rfl rfl rfl rfl rfl rfl ?_) | refine aoE (alW tabOk rfl rfl rfl rfl rfl rfl ?_) | refine cdN rfl tI (fun hc => ?_) (fun hc => ?_) | refine blK ?_ | refine exW ?_ | refine skW ?_ | refine rtW ?_ | refine dK2 (by decide +kernel) (by kernel_rfl) (by decide +kernel) rfl (fun K' hK => ?_) | refine dL2 (by kernel_rfl) (by decide +kernel) rfl (fun K' hK => ?_) | (refine aqN (hK _ ?_); clear hK K') | refine aqN ?_ | refine aqQ rfl rfl (fun hg => by first | exact std0 | exact pcW (mwithin_spec _ _ _) rfl rfl nd rfl nds | exact std1) (by exact rfl) ?_)
 exact ⟨.inr rfl, Ent.b rfl⟩
theorem rdr19_spec (r : Rdr) : PCall Tryz.prog 67 [.agg (encRd r)] (.b (isRdr r)) := by
 refine PCall.body Tryz.func67 rfl rfl Tryz.ntmps67 rfl rfl ?_
 repeat' (first | refine aoQ rfl rfl rfl (fun hg => by first | exact std0 | exact pcW (in19_spec _ _ _) rfl rfl nd rfl nds | exact pcW (id19_spec _) rfl rfl nd rfl nds | exact std1) (by exact rfl) ?_ | refine sqW ?_ | refine rgK (fun K' hK => ?_) | (refine aoN (hK _ _ ?_); clear hK K') | refine aoE (bxW rfl rfl rfl rfl rfl tI rfl rfl ?_) | refine aoE (stW tabOk rfl rfl rfl tI rfl rfl tI rfl rfl rfl rfl rfl rfl rfl ?_) | refine aoE (alW tabOk rfl rfl rfl rfl rfl rfl ?_) | refine cdN rfl tI (fun hc => ?_) (fun hc => ?_) | refine blK ?_ | refine exW ?_ | refine skW ?_ | refine rtW ?_ | refine dK2 (by decide +kernel) (by kernel_rfl) (by decide +kernel) rfl (fun K' hK => ?_) | refine dL2 (by kernel_rfl) (by decide +kernel) rfl (fun K' hK => ?_) | (refine aqN (hK _ ?_); clear hK K') | refine aqN ?_ | refine aqQ rfl rfl (fun hg => by first | exact std0 | exact pcW (in19_spec _ _ _) rfl rfl nd rfl nds | exact pcW (id19_spec _) rfl rfl nd rfl nds | exact std1) (by exact rfl) ?_)
 exact ⟨.inr rfl, Ent.b rfl⟩
theorem mrdr_spec (r : Rdr) : PCall Tryz.prog 118 [.agg (encRd r)] (.b (isRdr r)) := by
 refine PCall.body Tryz.func118 rfl rfl Tryz.ntmps118 rfl rfl ?_
 repeat' (first | refine aoQ rfl rfl rfl (fun hg => by first | exact std0 | exact pcW (mwithin_spec _ _ _) rfl rfl nd rfl nds | exact pcW (mid_spec _) rfl rfl nd rfl nds | exact std1) (by exact rfl) ?_ | refine sqW ?_ | refine rgK (fun K' hK => ?_) | (refine aoN (hK _ _ ?_); clear hK K') | refine aoE (bxW rfl rfl rfl rfl rfl tI rfl rfl ?_) | refine aoE (stW tabOk rfl rfl rfl tI rfl rfl tI rfl rfl rfl rfl rfl rfl rfl ?_) | refine aoE (alW tabOk rfl rfl rfl rfl rfl rfl ?_) | refine cdN rfl tI (fun hc => ?_) (fun hc => ?_) | refine blK ?_ | refine exW ?_ | refine skW ?_ | refine rtW ?_ | refine dK2 (by decide +kernel) (by kernel_rfl) (by decide +kernel) rfl (fun K' hK => ?_) | refine dL2 (by kernel_rfl) (by decide +kernel) rfl (fun K' hK => ?_) | (refine aqN (hK _ ?_); clear hK K') | refine aqN ?_ | refine aqQ rfl rfl (fun hg => by first | exact std0 | exact pcW (mwithin_spec _ _ _) rfl rfl nd rfl nds | exact pcW (mid_spec _) rfl rfl nd rfl nds | exact std1) (by exact rfl) ?_)
 exact ⟨.inr rfl, Ent.b rfl⟩
theorem by19_spec (l : Int) (r : Rdr) : PCall Tryz.prog 41 [.int l, .agg (encRd r)] (.b (byOk l r)) := by
 have v := rdr19_spec r
 refine PCall.body Tryz.func41 rfl rfl Tryz.ntmps41 rfl rfl ?_
 repeat' (first | refine aoQ rfl rfl rfl (fun hg => by first | exact std0 | exact pcW (v) rfl rfl nd rfl nds | exact pcW (in19_spec _ _ _) rfl rfl nd rfl nds | exact pcW (id19_spec _) rfl rfl nd rfl nds | exact std1) (by exact rfl) ?_ | refine sqW ?_ | refine rgK (fun K' hK => ?_) | (refine aoN (hK _ _ ?_); clear hK K') | refine aoE (bxW rfl rfl rfl rfl rfl tI rfl rfl ?_) | refine aoE (stW tabOk rfl rfl rfl tI rfl rfl tI rfl rfl rfl rfl rfl rfl rfl ?_) | refine aoE (alW tabOk rfl rfl rfl rfl rfl rfl ?_) | refine cdN rfl tI (fun hc => ?_) (fun hc => ?_) | refine blK ?_ | refine exW ?_ | refine skW ?_ | refine rtW ?_ | refine dK2 (by decide +kernel) (by kernel_rfl) (by decide +kernel) rfl (fun K' hK => ?_) | refine dL2 (by kernel_rfl) (by decide +kernel) rfl (fun K' hK => ?_) | (refine aqN (hK _ ?_); clear hK K') | refine aqN ?_ | refine aqQ rfl rfl (fun hg => by first | exact std0 | exact pcW (v) rfl rfl nd rfl nds | exact pcW (in19_spec _ _ _) rfl rfl nd rfl nds | exact pcW (id19_spec _) rfl rfl nd rfl nds | exact std1) (by exact rfl) ?_)
 all_goals (refine ⟨.inr rfl, Ent.b ?_⟩; simp_all [byOk, beq_iff_eq])
end Go.Proofs.YtbneeinknlddaaaGreat
