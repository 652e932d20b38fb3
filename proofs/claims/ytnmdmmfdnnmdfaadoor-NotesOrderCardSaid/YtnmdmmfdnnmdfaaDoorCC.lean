/- Contracts by content: meter.Valid; notes: ticks, isNote, indexes, formed, Valid. No statement is proved here. -/
import Derived.Test.YtnmdmmfdnnmdfaaDoorCB
set_option linter.unusedVariables false
set_option linter.unusedSimpArgs false
namespace Go.Proofs.YtnmdmmfdnnmdfaaDoor
open Go.Ab
attribute [local irreducible] AWP AOps EStep AQ PStep PRun PCall TCall VCall

structure Bar where
  id : Int
  len : Rat
  key : Int
  deriving DecidableEq, Inhabited
def encB (b : Bar) : List AV := [.int b.id, .int b.len.n, .int b.len.d, .int b.key]
structure Note where
  id : Int
  part : Int
  bar : Int
  voice : Int
  ossia : Int
  start : Rat
  len : Rat
  pitch : Pitch
  deriving DecidableEq, Inhabited
def encN (n : Note) : List AV := [.int n.id, .int n.part, .int n.bar, .int n.voice, .int n.ossia, .int n.start.n, .int n.start.d, .int n.len.n, .int n.len.d, .int n.pitch.step, .int n.pitch.alter, .int n.pitch.oct]

abbrev ekI (n : Int) : Value := .int .i64 n
def barA (b : Bar) : Bool := decide (b.id < 1) || decide (b.id > 1000000)
def barC (b : Bar) : Bool := !durOk b.len || b.len.n == 0 || decide ((ratCmp ⟨24, 1⟩ b.len).1 < 0)
def barOk (b : Bar) : Bool := !(barA b || decide (b.key < -7) || decide (b.key > 7)) && !barC b
def barsOk (l : List Bar) : Bool := l.all barOk && decide ((l.map (·.id)).Nodup) && decide (1 ≤ l.length) && decide (l.length ≤ 4000)

def seenAL {α : Type} (f : α → Int) (l : List α) : List (Int × Bool) := l.map fun b => (f b, true)
theorem lk_seen {α : Type} (f : α → Int) (l : List α) (k : Int) : (lk (seenAL f l) k).getD false = decide (k ∈ l.map f) := by
  induction l with
  | nil => simp [seenAL, lk]
  | cons x r ih =>
    simp only [seenAL, List.map_cons, lk] at *
    by_cases h : f x = k
    · simp [h]
    · rw [if_neg h, ih]
      have : ¬ k = f x := fun e => h e.symm
      simp [this]
theorem ins_new {κ α : Type} [DecidableEq κ] (al : List (κ × α)) (k : κ) (v : α) (h : k ∉ al.map (·.1)) : ins al k v = al ++ [(k, v)] := by
  induction al with
  | nil => rfl
  | cons p r ih =>
    obtain ⟨k', v'⟩ := p
    simp only [List.map_cons, List.mem_cons, not_or] at h
    simp only [ins, if_neg (Ne.symm h.1), ih h.2, List.cons_append]
theorem seen_keys {α : Type} (f : α → Int) (l : List α) : (seenAL f l).map (·.1) = l.map f := by simp [seenAL]
theorem seen_succ {α : Type} [Inhabited α] (f : α → Int) (l : List α) (k : Nat) (hk : k < l.length) (h : f (l.getD k default) ∉ (l.take k).map f) : ins (seenAL f (l.take k)) (f (l.getD k default)) true = seenAL f (l.take (k + 1)) := by
  rw [ins_new _ _ _ (by rw [seen_keys]; exact h)]
  rw [List.take_succ_eq_append_getElem hk, getD_lt hk]
  simp only [seenAL, List.map_append, List.map_cons, List.map_nil]
theorem nodup_succ {α : Type} [Inhabited α] (f : α → Int) (l : List α) (k : Nat) (hk : k < l.length) : ((l.take (k + 1)).map f).Nodup ↔ ((l.take k).map f).Nodup ∧ f (l.getD k default) ∉ (l.take k).map f := by
  rw [List.take_succ_eq_append_getElem hk, getD_lt hk, List.map_append, List.nodup_append]
  simp only [List.map_cons, List.map_nil, List.nodup_cons, List.not_mem_nil, not_false_eq_true, List.nodup_nil, and_true, List.mem_singleton, true_and]
  constructor
  · rintro ⟨h1, h2⟩
    exact ⟨h1, fun hm => h2 _ hm _ rfl rfl⟩
  · rintro ⟨h1, h2⟩
    exact ⟨h1, fun a ha b hb e => h2 (by rw [← hb, ← e]; exact ha)⟩
theorem not_nodup {α : Type} [Inhabited α] (f : α → Int) (l : List α) (k : Nat) (hk : k < l.length) (h : f (l.getD k default) ∈ (l.take k).map f) : ¬ (l.map f).Nodup := fun hn => by
  have h1 : ((l.take (k + 1)).map f).Nodup := by
    rw [← List.take_append_drop (k + 1) l, List.map_append] at hn
    exact (List.nodup_append.1 hn).1
  exact ((nodup_succ f l k hk).1 h1).2 h

theorem barsOk_bad {l : List Bar} {k : Nat} (hk : k < l.length) (h : barOk (l.getD k default) = false) : barsOk l = false := by
  unfold barsOk; rw [all_no hk h]; rfl
theorem barsOk_dup {l : List Bar} {k : Nat} (hk : k < l.length) (h : (l.getD k default).id ∈ (l.take k).map (·.id)) : barsOk l = false := by
  unfold barsOk; rw [decide_eq_false (not_nodup (fun b : Bar => b.id) l k hk h)]; simp

theorem mvalid_spec (l : List Bar) (hl : l.length ≤ 9223372036854775807) : PCall Tryd.prog 51 [.sl 4 (l.map encB) .no] (.b (barsOk l)) := by
  refine PCall.body Tryd.func51 rfl rfl Tryd.ntmps51 rfl rfl ?_
  repeat' (first | refine AOps.q rfl rfl rfl (fun hg => by first | exact std0 | exact std1) (by exact rfl) ?_ | refine AWP.seq ?_ | refine AWP.regionK (fun K' hK => ?_) | (refine AOps.nil (hK _ _ ?_); clear hK K') | refine AOps.e (EStep.boxW rfl rfl rfl rfl rfl True.intro rfl rfl ?_) | refine AOps.e (EStep.storeW tabOk rfl rfl rfl True.intro rfl rfl True.intro rfl rfl rfl rfl rfl rfl rfl ?_) | refine AOps.e (EStep.allocW tabOk rfl rfl rfl rfl rfl rfl ?_) | refine AOps.e (EStep.makeMapW rfl rfl rfl rfl ?_) | (refine AWP.condW rfl True.intro (fun hc => ?_) (fun hc => ?_) <;> (first | (simp only [decide_eq_true_eq] at hc) | (simp only [decide_eq_false_iff_not, Int.not_lt, Int.not_le] at hc) | skip)) | refine AWP.block ?_ | refine AWP.exit ?_ | refine AWP.skip ?_ | refine AWP.ret ?_ | refine AWP.drawK2 (by decide +kernel) (by kernel_rfl) (by decide +kernel) rfl (fun K' hK => ?_) | refine AWP.drawL2 (by kernel_rfl) (by decide +kernel) rfl (fun K' hK => ?_) | (refine AQ.nil (hK _ ?_); clear hK K') | refine AQ.nil ?_ | refine AQ.q rfl rfl (fun hg => by first | exact std0 | exact std1) (by exact rfl) ?_)
  refine AWP.loopD (ι := Nat) (fun k => [(0, .sl 4 (l.map encB) .no), (3, .map 0), (7, .sl 4 (l.map encB) .no), (8, .int l.length), (9, .int k)]) (fun k => [.map (encM ekI AV.b (seenAL (·.id) (l.take k)))])
    (fun k => k ≤ l.length ∧ (∀ j, j < k → barOk (l.getD j default) = true) ∧ ((l.take k).map (·.id)).Nodup) (fun k => l.length - k) 1 (fun _ => rfl) 0 ⟨Nat.zero_le _, fun j h => absurd h (by omega), by simp⟩ ⟨rfl, rfl, rfl, rfl, rfl, True.intro⟩ rfl (fun _ _ => rfl) (fun k _ => by simp [okObj, encM, okRef]) ?_
  rintro k ⟨hk, hall, hnd⟩
  by_cases hlt : k < l.length
  · have hs := lk_seen (fun b : Bar => b.id) (l.take k) (l.getD k default).id
    repeat' (first | refine AOps.q rfl rfl rfl (fun hg => by first | exact std0 | exact PRun.lookup (ek := ekI) (ev := AV.b) (zv := false) (keyLaw_int (LOk.of (tabOk.get rfl))) (LOk.of (tabOk.get rfl)) (LOk.of (tabOk.get rfl)) rfl rfl (Rd.w rfl nd) (Or.inr ⟨_, rfl, rfl⟩) (Rd.w rfl nd) rfl | exact PRun.callW (isDuration_spec _) rfl rfl nd rfl nds | exact PRun.callW (less_spec ⟨24, 1⟩ _) rfl rfl nd rfl nds | exact PRun.buildW tabOk rfl rfl nds | exact std1) (by exact rfl) ?_ | refine AWP.seq ?_ | refine AWP.regionK (fun K' hK => ?_) | (refine AOps.nil (hK _ _ ?_); clear hK K') | refine AOps.e (EStep.boxW rfl rfl rfl rfl rfl True.intro rfl rfl ?_) | refine AOps.e (EStep.storeW tabOk rfl rfl rfl True.intro rfl rfl True.intro rfl rfl rfl rfl rfl rfl rfl ?_) | refine AOps.e (EStep.allocW tabOk rfl rfl rfl rfl rfl rfl ?_) | refine AOps.e (EStep.mapUpd (ek := ekI) (ev := AV.b) (v := true) (keyLaw_int (LOk.of (tabOk.get rfl))) (LOk.of (tabOk.get rfl)) rfl rfl rfl (Rd.w rfl True.intro) rfl (Rd.w rfl True.intro) rfl (Rd.w rfl True.intro) ?_) | (refine AWP.condW rfl True.intro (fun hc => ?_) (fun hc => ?_) <;> (first | (simp only [decide_eq_true_eq] at hc) | (simp only [decide_eq_false_iff_not, Int.not_lt, Int.not_le] at hc) | skip)) | refine AWP.block ?_ | refine AWP.exit ?_ | refine AWP.skip ?_ | refine AWP.ret ?_ | refine AWP.drawK2 (by decide +kernel) (by kernel_rfl) (by decide +kernel) rfl (fun K' hK => ?_) | refine AWP.drawL2 (by kernel_rfl) (by decide +kernel) rfl (fun K' hK => ?_) | (refine AQ.nil (hK _ ?_); clear hK K') | refine AQ.nil ?_ | refine AQ.q rfl rfl (fun hg => by first | exact std0 | exact PRun.lookup (ek := ekI) (ev := AV.b) (zv := false) (keyLaw_int (LOk.of (tabOk.get rfl))) (LOk.of (tabOk.get rfl)) (LOk.of (tabOk.get rfl)) rfl rfl (Rd.w rfl nd) (Or.inr ⟨_, rfl, rfl⟩) (Rd.w rfl nd) rfl | exact PRun.callW (isDuration_spec _) rfl rfl nd rfl nds | exact PRun.callW (less_spec ⟨24, 1⟩ _) rfl rfl nd rfl nds | exact PRun.buildW tabOk rfl rfl nds | exact std1) (by exact rfl) ?_)
    · refine ⟨.inr rfl, Ent.b (Eq.symm ?_)⟩
      rw [Int.toNat_natCast] at hc
      rw [hs] at hc
      by_cases hm : (l.getD k default).id ∈ (l.take k).map (fun b => b.id)
      · exact barsOk_dup hlt hm
      · refine barsOk_bad hlt ?_
        rw [decide_eq_false hm, Bool.or_false] at hc
        unfold barOk barA; rw [hc]; rfl
    · refine ⟨.inr rfl, Ent.b (Eq.symm ?_)⟩
      rw [Int.toNat_natCast] at hc
      refine barsOk_bad hlt ?_
      unfold barOk barC; rw [hc]; simp
    · rename_i hc0
      rw [Int.toNat_natCast] at hc hc0
      rw [hs] at hc0
      simp only [Bool.or_eq_false_iff] at hc0
      have hm : (l.getD k default).id ∉ (l.take k).map (fun b => b.id) := of_decide_eq_false hc0.1.1.2
      refine ⟨k + 1, ⟨by omega, fun j hj => ?_, (nodup_succ _ l k hlt).2 ⟨hnd, hm⟩⟩, by omega, ⟨rfl, rfl, rfl, rfl, rfl, True.intro⟩, ?_⟩
      · refine lt_succ_cases hall ?_ hj
        unfold barOk barC
        rw [hc]
        unfold barA
        rw [hc0.1.1.1.1, hc0.1.1.1.2, hc0.1.2, hc0.2]; rfl
      · rw [← seen_succ _ l k hlt hm]; rfl
    · exfalso; omega
  · repeat' (first | refine AOps.q rfl rfl rfl (fun hg => by first | exact std0 | exact std1) (by exact rfl) ?_ | refine AWP.seq ?_ | refine AWP.regionK (fun K' hK => ?_) | (refine AOps.nil (hK _ _ ?_); clear hK K') | refine AOps.e (EStep.boxW rfl rfl rfl rfl rfl True.intro rfl rfl ?_) | refine AOps.e (EStep.storeW tabOk rfl rfl rfl True.intro rfl rfl True.intro rfl rfl rfl rfl rfl rfl rfl ?_) | refine AOps.e (EStep.allocW tabOk rfl rfl rfl rfl rfl rfl ?_) | (refine AWP.condW rfl True.intro (fun hc => ?_) (fun hc => ?_) <;> (first | (simp only [decide_eq_true_eq] at hc) | (simp only [decide_eq_false_iff_not, Int.not_lt, Int.not_le] at hc) | skip)) | refine AWP.block ?_ | refine AWP.exit ?_ | refine AWP.skip ?_ | refine AWP.ret ?_ | refine AWP.drawK2 (by decide +kernel) (by kernel_rfl) (by decide +kernel) rfl (fun K' hK => ?_) | refine AWP.drawL2 (by kernel_rfl) (by decide +kernel) rfl (fun K' hK => ?_) | (refine AQ.nil (hK _ ?_); clear hK K') | refine AQ.nil ?_ | refine AQ.q rfl rfl (fun hg => by first | exact std0 | exact std1) (by exact rfl) ?_)
    · exfalso; omega
    · refine ⟨.inr rfl, Ent.b ?_⟩
      have htk : l.take k = l := List.take_of_length_le (by omega)
      rw [htk] at hnd
      unfold barsOk
      rw [all_yes fun j hj => hall j (by omega), decide_eq_true hnd]
      rw [Bool.eq_iff_iff]; simp; omega

def ticksV (r : Rat) : Int := r.n * Int.tdiv 1680 r.d
theorem durOk_iff {r : Rat} : durOk r = true ↔ ratOk r = true ∧ 0 ≤ r.n ∧ Int.tmod 1680 r.d = 0 := by simp [durOk, and_assoc]
theorem tdiv1680 {r : Rat} (h : ratOk r = true) : 0 ≤ Int.tdiv 1680 r.d ∧ Int.tdiv 1680 r.d ≤ 1680 := by
  have := ratOk_iff.1 h
  have h1 := tdiv_le 1680 r.d
  have h2 := Int.tdiv_nonneg (a := 1680) (b := r.d) (by omega) (by omega)
  omega
def ticksR (r : Rat) : Int × Bool := if durOk r then (ticksV r, true) else (0, false)
theorem ticks_spec (r : Rat) : PCall Tryd.prog 68 [.agg (encR r)] (.tup [.int (ticksR r).1, .b (ticksR r).2]) := by
  have v := rvalid_spec r
  have hd : ratOk r = true → r.d ≠ 0 := fun h => by have := ratOk_iff.1 h; omega
  refine PCall.body Tryd.func68 rfl rfl Tryd.ntmps68 rfl rfl ?_
  by_cases h : durOk r = true
  · have h1 := durOk_iff.1 h
    have h2 := ratOk_iff.1 h1.1
    have h3 := tdiv1680 h1.1
    have h4 := mul_in (x := r.n) (y := Int.tdiv 1680 r.d) (A := 1000000000) (B := 1680) (by omega) h3
    repeat' (first | refine AOps.q rfl rfl rfl (fun hg => by first | exact std0 | exact PRun.callW (v) rfl rfl nd rfl nds | exact std1) (by exact rfl) ?_ | refine AWP.seq ?_ | refine AWP.regionK (fun K' hK => ?_) | (refine AOps.nil (hK _ _ ?_); clear hK K') | refine AOps.e (EStep.boxW rfl rfl rfl rfl rfl True.intro rfl rfl ?_) | refine AOps.e (EStep.storeW tabOk rfl rfl rfl True.intro rfl rfl True.intro rfl rfl rfl rfl rfl rfl rfl ?_) | refine AOps.e (EStep.allocW tabOk rfl rfl rfl rfl rfl rfl ?_) | (refine AWP.condW rfl True.intro (fun hc => ?_) (fun hc => ?_) <;> (first | (simp only [decide_eq_true_eq] at hc) | (simp only [decide_eq_false_iff_not, Int.not_lt, Int.not_le] at hc) | skip)) | refine AWP.block ?_ | refine AWP.exit ?_ | refine AWP.skip ?_ | refine AWP.ret ?_ | refine AWP.drawK2 (by decide +kernel) (by kernel_rfl) (by decide +kernel) rfl (fun K' hK => ?_) | refine AWP.drawL2 (by kernel_rfl) (by decide +kernel) rfl (fun K' hK => ?_) | (refine AQ.nil (hK _ ?_); clear hK K') | refine AQ.nil ?_ | refine AQ.q rfl rfl (fun hg => by first | exact std0 | exact PRun.callW (v) rfl rfl nd rfl nds | exact std1) (by exact rfl) ?_)
    · exfalso; revert hc; rw [h1.1]; simp; omega
    · refine ⟨.inr rfl, Ent.of ?_⟩
      rw [show ticksR r = (ticksV r, true) from by unfold ticksR; rw [if_pos h]]; rfl
  · repeat' (first | refine AOps.q rfl rfl rfl (fun hg => by first | exact std0 | exact PRun.callW (v) rfl rfl nd rfl nds | exact std1) (by exact rfl) ?_ | refine AWP.seq ?_ | refine AWP.regionK (fun K' hK => ?_) | (refine AOps.nil (hK _ _ ?_); clear hK K') | refine AOps.e (EStep.boxW rfl rfl rfl rfl rfl True.intro rfl rfl ?_) | refine AOps.e (EStep.storeW tabOk rfl rfl rfl True.intro rfl rfl True.intro rfl rfl rfl rfl rfl rfl rfl ?_) | refine AOps.e (EStep.allocW tabOk rfl rfl rfl rfl rfl rfl ?_) | (refine AWP.condW rfl True.intro (fun hc => ?_) (fun hc => ?_) <;> (first | (simp only [decide_eq_true_eq] at hc) | (simp only [decide_eq_false_iff_not, Int.not_lt, Int.not_le] at hc) | skip)) | refine AWP.block ?_ | refine AWP.exit ?_ | refine AWP.skip ?_ | refine AWP.ret ?_ | (refine AQ.nil (hK _ ?_); clear hK K') | refine AQ.nil ?_ | refine AQ.q rfl rfl (fun hg => by first | exact std0 | exact PRun.callW (v) rfl rfl nd rfl nds | exact std1) (by exact rfl) ?_)
    · refine ⟨.inr rfl, Ent.of ?_⟩
      rw [show ticksR r = (0, false) from by unfold ticksR; rw [if_neg h]]; rfl
    · exfalso
      apply h
      rw [durOk_iff]
      simp only [Bool.or_eq_false_iff, Bool.not_eq_false', decide_eq_false_iff_not, bne_eq_false_iff_eq] at hc
      exact ⟨hc.1.1, by omega, hc.2⟩
end Go.Proofs.YtnmdmmfdnnmdfaaDoor
