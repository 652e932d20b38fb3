/- What the walks use at every step: side conditions, operations that need no contract.  Contracts by content of the small functions of package edition and of its reference: in, few, name, letter, form.  Contracts by content: within, other, runes, isName, letters.  Contracts by content: the index functions over printed bars and letters, formed; that formed is Form. No statement is proved here. -/
import Derived.Lib.SlicesS
import Derived.Test.YtdglbdfdkabjfaaGreatDoorP5
import Derived.Test.YtdglbdfdkabjfaaGreatDoorP6
set_option linter.unusedVariables false
set_option linter.unusedSimpArgs false
namespace Go.Proofs.YtdglbdfdkabjfaaGreatDoor
open Go.Ab
theorem nd {p : Prop} (h : p := by first | exact True.intro | exact hg) : p := h
theorem nds {p : Prop} (h : p := by first | exact True.intro | exact ⟨True.intro, True.intro⟩ | exact ⟨True.intro, True.intro, True.intro⟩ | (repeat' (first | exact True.intro | exact hg | refine ⟨?_, ?_⟩))) : p := h
theorem sd {p : Prop} (h : p := by first | exact True.intro | exact ⟨True.intro, True.intro, True.intro⟩ | exact hg | exact ⟨True.intro, True.intro⟩ | exact ⟨hg, hg, True.intro⟩ | (repeat' (first | exact True.intro | exact hg | omega | decide | refine ⟨?_, ?_⟩ | (intro h; change (_ == _) = true; rw [h]; rfl) | (intro h; change (_ && (_ == _)) = true; rw [zA0]; exact ⟨hg, by rw [h]; rfl⟩) | (exfalso; revert hg; simp; done) | (simp at hc; omega) | (exfalso; simp at hc; done) | (simp at hg; simp_all; done) | (simp at hg; simp_all; omega)))) : p := h
theorem std1 {o : Oper} {env : Env} {σ : Store} {v : AV} (h : PRun Tryz.prog o env σ v := by first
 | exact PRun.indexMW tabOk rfl rfl nd rfl nd rfl rfl (by omega)
 | exact PRun.lenM tabOk rfl rfl nd rfl
 | exact PRun.lenW tabOk rfl rfl nd rfl
 | exact PRun.binW rfl rfl nd rfl nd rfl
 | exact PRun.negWr rfl rfl nd
 | exact PRun.nilCheckP rfl rfl nd) : PRun Tryz.prog o env σ v := h
theorem std0 {o : Oper} {env : Env} {σ : Store} {v : AV} (h : PRun Tryz.prog o env σ v := by exact PRun.step tabOk rfl sd) : PRun Tryz.prog o env σ v := h
theorem iX {α : Type} [Inhabited α] (f : α → List AV) (l : List α) (i : Int) {x : α} {o : Oper} {env : Env} {σ : Store} (hx : l.getD i.toNat default = x) (h : ∀ _ : 0 ≤ i ∧ i < l.length, PRun Tryz.prog o env σ (.iptr (f (l.getD i.toNat default))) := by exact fun hb => PRun.indexMW tabOk rfl rfl nd rfl nd rfl rfl hb) (hb : 0 ≤ i ∧ i < l.length) : PRun Tryz.prog o env σ (.iptr (f x)) := hx ▸ h hb
theorem cdN {n : Nat} {K : Exit → Env → Store → Prop} {env : Env} {σ : Store} {t : Nat} {x y : Code} {v : Bool} {p q : Prop} (hv : rdv env (.tmp t) = some (.b v)) (hn : rdn env (.tmp t)) (ht : p → AWP Tryz.prog n x K env σ) (hf : q → AWP Tryz.prog n y K env σ) (c : (v = true → p) ∧ (v = false → q) := by first | exact ⟨fun h => of_decide_eq_true h, fun h => Int.not_lt.1 (of_decide_eq_false h)⟩ | exact ⟨fun h => of_decide_eq_true h, fun h => Int.not_le.1 (of_decide_eq_false h)⟩ | exact ⟨fun h => (h : (@BEq.beq _ _ _ _) = true), fun h => (h : (@BEq.beq _ _ _ _) = false)⟩ | exact ⟨fun h => of_decide_eq_true h, fun h => of_decide_eq_false h⟩ | exact ⟨fun h => h, fun h => h⟩) : AWP Tryz.prog n (.cond (.tmp t) x y) K env σ := AWP.condW hv hn (fun h => ht (c.1 h)) (fun h => hf (c.2 h))
theorem dd {C : Prop} (h : False := by first | (omega) | (simp at hc; done) | (simp at hc; omega) | (simp only [dEf, dEt] at hc; omega) | (rename_i h0; simp at h0; done) | (rename_i h0; simp at h0; omega) | fail) : C := h.elim
end Go.Proofs.YtdglbdfdkabjfaaGreatDoor
namespace Go.Ab
theorem tI : True := True.intro
abbrev pcW := @PRun.callW
abbrev pbW := @PRun.callBW
abbrev rgK := @AWP.regionK
abbrev aoE := @AOps.e
abbrev stW := @EStep.storeW
abbrev aoN := @AOps.nil
abbrev alW := @EStep.allocW
abbrev cdW := @AWP.condW
abbrev blK := @AWP.block
abbrev sqW := @AWP.seq
abbrev bxW := @EStep.boxW
abbrev skW := @AWP.skip
abbrev rtW := @AWP.ret
abbrev dK2 := @AWP.drawK2
abbrev dL2 := @AWP.drawL2
abbrev aoQ := @AOps.q
abbrev exW := @AWP.exit
abbrev aqN := @AQ.nil
abbrev aqQ := @AQ.q
abbrev yqQ := @YQ.q
abbrev piW := @PRun.indexMW
abbrev pbD := @PRun.buildW
abbrev pbS := @PRun.buildSlW
abbrev scT := @EStep.callT
abbrev apO := @EStep.appendOwn'
abbrev lpD := @AWP.loopD
abbrev lpW := @AWP.loopW
abbrev nLr := @Nat.le_refl
abbrev nZl := @Nat.zero_le
abbrev nLg := @Nat.lt_or_ge
abbrev lLm := @List.length_map
abbrev lLa := @List.length_append
abbrev lMm := @List.mem_map
abbrev lGm := @List.getElem_mem
end Go.Ab
namespace Go.Proofs.YtdglbdfdkabjfaaGreatDoor.Ed
open Go.Ab
attribute [local irreducible] AWP AOps EStep AQ PStep PRun PCall TCall VCall
theorem in_spec (a b c : Int) : PCall Tryz.prog 104 [.int a, .int b, .int c] (.b (inB a b c)) := by
 refine PCall.body Tryz.func104 rfl rfl Tryz.ntmps104 rfl rfl ?_
 repeat' (first | refine aoQ rfl rfl rfl (fun hg => by exact std0) (by exact rfl) ?_ | refine sqW ?_ | refine rgK (fun K' hK => ?_) | (refine aoN (hK _ _ ?_); clear hK K') | refine rtW ?_)
 exact ⟨.inr rfl, fun _ _ h => h⟩
structure Printed where
 number : Int
 bar : Int
 pass : Int
 deriving Inhabited
structure Letter where
 name : ByteArray
 pos : Int
 deriving Inhabited
structure Edition where
 id : Int
 version : Int
 bars : List Printed
 letters : List Letter
def encP (p : Printed) : List AV := [.int p.number, .int p.bar, .int p.pass]
def encL (p : Letter) : List AV := [.str p.name, .int p.pos]
def encE (e : Edition) : List AV := [.int e.id, .int e.version, .sl 3 (e.bars.map encP) .no, .sl 2 (e.letters.map encL) .no]
theorem few_spec (e : Edition) : PCall Tryz.prog 30 [.agg (encE e)] (.b (decide ((e.bars.length : Int) ≤ 80) && decide ((e.letters.length : Int) ≤ 60))) := by
 refine PCall.body Tryz.func30 rfl rfl Tryz.ntmps30 rfl rfl ?_
 repeat' (first | refine aoQ rfl rfl rfl (fun hg => by first | exact std0 | exact std1) (by exact rfl) ?_ | refine sqW ?_ | refine rgK (fun K' hK => ?_) | (refine aoN (hK _ _ ?_); clear hK K') | refine aoE (bxW rfl rfl rfl rfl rfl tI rfl rfl ?_) | refine rtW ?_)
 exact ⟨.inr rfl, fun _ _ h => h⟩
def nameAt (s : ByteArray) (i : Nat) : Bool :=
 (decide (((s.data.toList.getD i 0).toNat : Int) ≥ 65) && decide (((s.data.toList.getD i 0).toNat : Int) ≤ 90)) ||
 ((decide (((s.data.toList.getD i 0).toNat : Int) ≥ 48) && decide (((s.data.toList.getD i 0).toNat : Int) ≤ 57)) && decide (i ≠ 0))
def nameB (s : ByteArray) : Bool := decide (1 ≤ s.size) && decide (s.size ≤ 12) && (List.range s.size).all (nameAt s)
theorem nameB_true {s : ByteArray} (h1 : 1 ≤ s.size) (h2 : s.size ≤ 12) (h : ∀ j, j < s.size → nameAt s j = true) : nameB s = true := by
 simp [nameB, h1, h2]; exact h
theorem nameB_false {s : ByteArray} {k : Nat} (hk : k < s.size) (h : nameAt s k = false) : nameB s = false := by
 cases hn : nameB s with
 | false => rfl
 | true =>
   simp [nameB] at hn
   have := hn.2 k hk
   rw [h] at this; cases this
theorem name_spec (s : ByteArray) : PCall Tryz.prog 120 [.str s] (.b (nameB s)) := by
 refine PCall.body Tryz.func120 rfl rfl Tryz.ntmps120 rfl rfl ?_
 repeat' (first | refine aoQ rfl rfl rfl (fun hg => by exact std0) (by exact rfl) ?_ | refine sqW ?_ | refine rgK (fun K' hK => ?_) | (refine aoN (hK _ _ ?_); clear hK K') | refine cdN rfl tI (fun hc => ?_) (fun hc => ?_) | refine blK ?_ | refine skW ?_ | refine rtW ?_)
 · -- too short, too long
   have e : nameB s = false := by
    simp at hc
    rcases hc with h | h
    · have : s.size = 0 := by omega
      simp [nameB, this]
    · have : ¬ s.size ≤ 12 := by omega
      simp [nameB, this]
   rw [e]; exact ⟨.inr rfl, fun _ _ h => h⟩
 · simp at hc
   have hs1 : 1 ≤ s.size := by omega
   have hs2 : s.size ≤ 12 := by omega
   clear hc
   refine lpW (ι := Nat) (fun k => [(0, .str s), (3, .int k)]) (fun _ => []) (fun k => k ≤ s.size ∧ ∀ j, j < k → nameAt s j = true) (fun k => s.size - k) 0 ⟨nZl _, fun j h => absurd h (by omega)⟩ ⟨rfl, rfl, tI⟩ rfl ?_
   rintro k ⟨hk, hall⟩
   repeat' (first | refine aoQ rfl rfl rfl (fun hg => by exact std0) (by exact rfl) ?_ | refine sqW ?_ | refine rgK (fun K' hK => ?_) | (refine aoN (hK _ _ ?_); clear hK K') | refine cdN rfl tI (fun hc => ?_) (fun hc => ?_) | refine blK ?_ | refine exW ?_ | refine skW ?_ | refine rtW ?_)
   · have e : nameB s = false := nameB_false (k := k) (by omega) (by simp [nameAt] at hc ⊢; omega)
     rw [e]; exact ⟨.inr rfl, fun _ _ h => h⟩
   · refine ⟨k + 1, ⟨by omega, fun j hj => ?_⟩, by omega, ⟨rfl, rfl, tI⟩, rfl⟩
     rcases nLg j k with h | h
     · exact hall j h
     · have : j = k := by omega
       subst this
       simp [nameAt] at hc ⊢; omega
   · rw [nameB_true hs1 hs2 fun j hj => hall j (by omega)]
     exact ⟨.inr rfl, fun _ _ h => h⟩
def letterI (l : List Letter) (nm : ByteArray) : Int := findI (fun x => x.name.toList == nm.toList) l
theorem letter_spec (l : List Letter) (nm : ByteArray) (hl : l.length ≤ 9223372036854775807) : PCall Tryz.prog 121 [.sl 2 (l.map encL) .no, .str nm] (.int (letterI l nm)) := by
 refine PCall.body Tryz.func121 rfl rfl Tryz.ntmps121 rfl rfl ?_
 repeat' (first | refine aoQ rfl rfl rfl (fun hg => by exact std0) (by exact rfl) ?_ | refine sqW ?_ | refine rgK (fun K' hK => ?_) | (refine aoN (hK _ _ ?_); clear hK K') | refine blK ?_)
 refine lpW (ι := Nat) (fun k => [(0, .sl 2 (l.map encL) .no), (1, .str nm), (5, .int k)]) (fun _ => []) (fun k => k ≤ l.length ∧ ∀ j, j < k → ((l.getD j default).name.toList == nm.toList) = false) (fun k => l.length - k) 0 ⟨nZl _, fun j h => absurd h (by omega)⟩ ⟨rfl, rfl, rfl, tI⟩ rfl ?_
 rintro k ⟨hk, hall⟩
 repeat' (first | refine aoQ rfl rfl rfl (fun hg => by first | exact std0 | exact std1) (by exact rfl) ?_ | refine sqW ?_ | refine rgK (fun K' hK => ?_) | (refine aoN (hK _ _ ?_); clear hK K') | refine cdN rfl tI (fun hc => ?_) (fun hc => ?_) | refine blK ?_ | refine exW ?_ | refine skW ?_ | refine rtW ?_)
 · refine ⟨.inr rfl, ?_⟩
   rw [show letterI l nm = k from findI_at (by omega) hc hall]
   exact fun _ _ h => h
 · exact ⟨k + 1, ⟨by omega, fun j hj => lt_succ_cases hall hc hj⟩, by omega, ⟨rfl, rfl, rfl, tI⟩, rfl⟩
 · refine ⟨.inr rfl, ?_⟩
   rw [show letterI l nm = -1 from findI_no fun j hj => hall j (by omega)]
   exact fun _ _ h => h
def barOk (p : Printed) : Bool := inB p.number 0 100000 && inB p.bar 1 1000000 && inB p.pass 0 9
def letOk (e : Edition) (i : Nat) : Bool :=
 nameB (e.letters.getD i default).name && inB (e.letters.getD i default).pos 0 ((e.bars.length : Int) - 1) && letterI e.letters (e.letters.getD i default).name == (i : Int)
def headOk (e : Edition) : Bool := inB e.id 1 1000000 && inB e.version 1 1000000 && inB e.bars.length 1 4000 && decide ((e.letters.length : Int) ≤ 1000)
def formB (e : Edition) : Bool := headOk e && e.bars.all barOk && (List.range e.letters.length).all (letOk e)
theorem form_spec (e : Edition) : PCall Tryz.prog 61 [.agg (encE e)] (.b (formB e)) := by
 refine PCall.body Tryz.func61 rfl rfl Tryz.ntmps61 rfl rfl ?_
 repeat' (first | refine aoQ rfl rfl rfl (fun hg => by first | exact std0 | exact pcW (in_spec _ _ _) rfl rfl nd rfl nds | exact std1) (by exact rfl) ?_ | refine sqW ?_ | refine rgK (fun K' hK => ?_) | (refine aoN (hK _ _ ?_); clear hK K') | refine aoE (bxW rfl rfl rfl rfl rfl tI rfl rfl ?_) | refine cdN rfl tI (fun hc => ?_) (fun hc => ?_) | refine blK ?_ | refine skW ?_ | refine rtW ?_)
 · have : headOk e = false := by simp [headOk, inB] at hc ⊢; omega
   refine ⟨.inr rfl, ?_⟩
   rw [show formB e = false by simp [formB, this]]
   exact fun _ _ h => h
 have hh : headOk e = true := by simp [headOk, inB] at hc ⊢; omega
 have hl1 : e.bars.length ≤ 4000 := by simp [inB] at hc; omega
 have hl2 : e.letters.length ≤ 1000 := by simp [inB] at hc; omega
 clear hc
 skip
 refine lpW (ι := Nat) (fun k => [(1, .ptr 0 0), (6, .int k)]) (fun _ => [.var (encE e)]) (fun k => k ≤ e.bars.length ∧ ∀ j, j < k → barOk (e.bars.getD j default) = true) (fun k => e.bars.length - k) 0 ⟨nZl _, fun j h => absurd h (by omega)⟩ ⟨rfl, rfl, tI⟩ rfl ?_
 rintro k ⟨hk, hall⟩
 repeat' (first | refine aoQ rfl rfl rfl (fun hg => by first | exact std0 | exact pcW (in_spec _ _ _) rfl rfl nd rfl nds | exact std1) (by exact rfl) ?_ | refine sqW ?_ | refine rgK (fun K' hK => ?_) | (refine aoN (hK _ _ ?_); clear hK K') | refine cdN rfl tI (fun hc => ?_) (fun hc => ?_) | refine blK ?_ | refine exW ?_ | refine skW ?_ | refine rtW ?_)
 · have hb : barOk (e.bars.getD k default) = false := by
    rw [zAa] at hc
    unfold barOk; revert hc
    cases inB (e.bars.getD k default).number 0 100000 <;> cases inB (e.bars.getD k default).bar 1 1000000 <;> cases inB (e.bars.getD k default).pass 0 9 <;> simp
   refine ⟨.inr rfl, ?_⟩
   rw [show formB e = false by simp only [formB, all_no (k := k) (by omega) hb, zCj, zBq]]
   exact fun _ _ h => h
 · have hb : barOk (e.bars.getD k default) = true := by
    rw [zAa] at hc
    unfold barOk; revert hc
    cases inB (e.bars.getD k default).number 0 100000 <;> cases inB (e.bars.getD k default).bar 1 1000000 <;> cases inB (e.bars.getD k default).pass 0 9 <;> simp
   exact ⟨k + 1, ⟨by omega, fun j hj => lt_succ_cases hall hb hj⟩, by omega, ⟨rfl, rfl, tI⟩, rfl⟩
 have hbars : e.bars.all barOk = true := all_yes fun j hj => hall j (by omega)
 clear hall hc hk
 refine lpW (ι := Nat) (fun k => [(1, .ptr 0 0), (9, .int k)]) (fun _ => [.var (encE e)]) (fun k => k ≤ e.letters.length ∧ ∀ j, j < k → letOk e j = true) (fun k => e.letters.length - k) 0 ⟨nZl _, fun j h => absurd h (by omega)⟩ ⟨rfl, rfl, tI⟩ rfl ?_
 rintro k ⟨hk, hall⟩
 repeat' (first | refine aoQ rfl rfl rfl (fun hg => by first | exact std0 | exact pcW (name_spec _) rfl rfl nd rfl nds | exact std1) (by exact rfl) ?_ | refine sqW ?_ | refine rgK (fun K' hK => ?_) | (refine aoN (hK _ _ ?_); clear hK K') | refine cdN rfl tI (fun hc => ?_) (fun hc => ?_) | refine blK ?_ | refine exW ?_ | refine skW ?_ | refine rtW ?_ | refine dK2 (by decide +kernel) (by kernel_rfl) (by decide +kernel) rfl (fun K' hK => ?_) | (refine aqN (hK _ ?_); clear hK K') | refine aqQ rfl rfl (fun hg => by first | exact std0 | exact pcW (in_spec _ _ _) rfl rfl nd rfl nds | exact pcW (letter_spec e.letters _ (by omega)) rfl rfl nd rfl nds | exact std1) (by exact rfl) ?_)
 · have hb : letOk e k = false := by
    rw [zAa] at hc
    unfold letOk; revert hc
    cases nameB (e.letters.getD k default).name <;> cases inB (e.letters.getD k default).pos 0 (↑e.bars.length - 1) <;> simp
   refine ⟨.inr rfl, ?_⟩
   rw [show formB e = false by simp only [formB, allR_no (show k < e.letters.length by omega) hb, zCj]]
   exact fun _ _ h => h
 · have hb : letOk e k = true := by
    rw [zAa] at hc
    unfold letOk; revert hc
    cases nameB (e.letters.getD k default).name <;> cases inB (e.letters.getD k default).pos 0 (↑e.bars.length - 1) <;> simp
   exact ⟨k + 1, ⟨by omega, fun j hj => lt_succ_cases hall hb hj⟩, by omega, ⟨rfl, rfl, tI⟩, rfl⟩
 · have hlet : (List.range e.letters.length).all (letOk e) = true := allR_yes fun j hj => hall j (by omega)
   refine ⟨.inr rfl, ?_⟩
   rw [show formB e = true by simp only [formB, hh, hbars, hlet, zC9]]
   exact fun _ _ h => h
theorem within_spec (a b c : Int) : PCall Tryz.prog 72 [.int a, .int b, .int c] (.b (inB a b c)) := by
 refine PCall.body Tryz.func72 rfl rfl Tryz.ntmps72 rfl rfl ?_
 repeat' (first | refine aoQ rfl rfl rfl (fun hg => by exact std0) (by exact rfl) ?_ | refine sqW ?_ | refine rgK (fun K' hK => ?_) | (refine aoN (hK _ _ ?_); clear hK K') | refine rtW ?_)
 exact ⟨.inr rfl, fun _ _ h => h⟩
def otherB (c : Int) : Bool := (decide (c < 65) || decide (c > 90)) && (decide (c < 48) || decide (c > 57))
theorem other_spec (c : Int) : PCall Tryz.prog 150 [.prim (.int .i32 c)] (.b (otherB c)) := by
 refine PCall.body Tryz.func150 rfl rfl Tryz.ntmps150 rfl rfl ?_
 repeat' (first | refine aoQ rfl rfl rfl (fun hg => by exact std0) (by exact rfl) ?_ | refine sqW ?_ | refine rgK (fun K' hK => ?_) | (refine aoN (hK _ _ ?_); clear hK K') | refine rtW ?_)
 exact ⟨.inr rfl, fun _ _ h => h⟩
theorem runes_spec (s : ByteArray) (fv : AV) (p : Int → Bool) (truth : Bool) (hf : ∀ c : Nat, FnCall Tryz.prog fv [.prim (.int .i32 c)] (.b (p c))) (hp : ∀ c : Nat, 128 ≤ c → p c = truth) (hs : s.size ≤ 9223372036854775807) :
 PCall Tryz.prog 172 [.str s, fv, .b truth] (.int (findI (fun b => p (b.toNat : Int) == truth) s.data.toList)) := by
 refine PCall.bodyX [1] Tryz.func172 rfl rfl Tryz.ntmps172 rfl rfl ?_
 repeat' (first | refine aoQ rfl rfl rfl (fun hg => by exact std0) (by exact rfl) ?_ | refine sqW ?_ | refine rgK (fun K' hK => ?_) | (refine aoN (hK _ _ ?_); clear hK K') | refine aoE (EStep.rangeSW tabOk rfl rfl rfl rfl rfl tI rfl ?_) | refine blK ?_)
 have hsz : s.data.toList.length = s.size := by simp
 refine lpW (ι := Nat) (fun k => [(1, .ext fv), (2, .b truth), (10, .ptr 0 0)]) (fun k => [.siter s k]) (fun k => k ≤ s.size ∧ ∀ j, j < k → (p ((s.data.toList.getD j default).toNat : Int) == truth) = false) (fun k => s.size - k) 0 ⟨nZl _, fun j h => absurd h (by omega)⟩ ⟨rfl, rfl, rfl, tI⟩ rfl ?_
 rintro k ⟨hk, hall⟩
 by_cases hlt : k < s.size
 · by_cases hlow : (s.data.toList.getD k 0).toNat < 128
   · have hd := decLow hlt hlow
     repeat' (first | refine aoQ rfl rfl rfl (fun hg => by first | exact std0 | exact PRun.callV (hf _) rfl rfl nd rfl nds) (by exact rfl) ?_ | refine sqW ?_ | refine rgK (fun K' hK => ?_) | (refine aoN (hK _ _ ?_); clear hK K') | refine aoE (EStep.nextR hd hlt rfl rfl rfl rfl rfl tI rfl ?_) | refine cdN rfl tI (fun hc => ?_) (fun hc => ?_) | refine blK ?_ | refine exW ?_ | refine skW ?_ | refine rtW ?_)
     · refine ⟨.inr rfl, ?_⟩
       rw [show findI (fun b : UInt8 => p (b.toNat : Int) == truth) s.data.toList = k from findI_at (by omega) hc hall]
       exact fun _ _ h => h
     · exact ⟨k + 1, ⟨by omega, fun j hj => lt_succ_cases hall hc hj⟩, by omega, ⟨rfl, rfl, rfl, tI⟩, rfl⟩
     · exact absurd hc (by simp)
   · have hh := decHigh hlt (by omega)
     obtain ⟨c, wd, hd⟩ : ∃ c wd, Utf8.decode s k = (c, wd) := ⟨_, _, rfl⟩
     rw [hd] at hh
     have hpc := hp c hh
     have hpk := hp _ (Nat.le_of_not_lt hlow)
     repeat' (first | refine aoQ rfl rfl rfl (fun hg => by first | exact std0 | exact PRun.callV (hf _) rfl rfl nd rfl nds) (by exact rfl) ?_ | refine sqW ?_ | refine rgK (fun K' hK => ?_) | (refine aoN (hK _ _ ?_); clear hK K') | refine aoE (EStep.nextR hd hlt rfl rfl rfl rfl rfl tI rfl ?_) | refine cdN rfl tI (fun hc => ?_) (fun hc => ?_) | refine blK ?_ | refine exW ?_ | refine skW ?_ | refine rtW ?_)
     · refine ⟨.inr rfl, ?_⟩
       rw [show findI (fun b : UInt8 => p (b.toNat : Int) == truth) s.data.toList = k from findI_at (by omega) (by show (p ((s.data.toList.getD k 0).toNat : Int) == truth) = true; rw [hpk]; simp) hall]
       exact fun _ _ h => h
     · rw [hpc] at hc; simp at hc
     · exact absurd hc (by simp)
 · repeat' (first | refine aoQ rfl rfl rfl (fun hg => by first | exact std0 | exact PRun.nextEnd rfl rfl nd rfl hlt) (by exact rfl) ?_ | refine sqW ?_ | refine rgK (fun K' hK => ?_) | (refine aoN (hK _ _ ?_); clear hK K') | refine cdN rfl tI (fun hc => ?_) (fun hc => ?_) | refine blK ?_ | refine exW ?_ | refine skW ?_ | refine rtW ?_)
   · exact absurd hc (by simp)
   · refine ⟨.inr rfl, ?_⟩
     rw [show findI (fun b : UInt8 => p (b.toNat : Int) == truth) s.data.toList = -1 from findI_no fun j hj => hall j (by omega)]
     exact fun _ _ h => h
theorem runes1_spec (s : ByteArray) (fv : AV) (p : Int → Bool) (hf : ∀ c : Nat, FnCall Tryz.prog fv [.prim (.int .i32 c)] (.b (p c))) (hp : ∀ c : Nat, 128 ≤ c → p c = true) (hs : s.size ≤ 9223372036854775807) :
 PCall Tryz.prog 126 [.str s, fv] (.int (findI (fun b => p (b.toNat : Int) == true) s.data.toList)) := by
 refine PCall.bodyX [1] Tryz.func126 rfl rfl Tryz.ntmps126 rfl rfl ?_
 repeat' (first | refine aoQ rfl rfl rfl (fun hg => by first | exact std0 | exact pcW (runes_spec s fv p true hf hp hs) rfl rfl nd rfl nds) (by exact rfl) ?_ | refine sqW ?_ | refine rgK (fun K' hK => ?_) | (refine aoN (hK _ _ ?_); clear hK K') | refine rtW ?_)
 exact ⟨.inr rfl, fun _ _ h => h⟩
theorem other_high (c : Nat) (hc : 128 ≤ c) : otherB c = true := by
 simp [otherB]; omega
theorem other_call (c : Nat) : FnCall Tryz.prog (.fn (.func 150) [] []) [.prim (.int .i32 c)] (.b (otherB c)) := ⟨150, [], [], rfl, other_spec c⟩
theorem bytes_toList {a b : ByteArray} (h : (a.toList == b.toList) = true) : a = b := (Lib.bytes_beq_iff a b).1 h
theorem nameB_iff (s : ByteArray) : nameB s = true ↔ 1 ≤ s.size ∧ s.size ≤ 12 ∧ ∀ j, j < s.size → nameAt s j = true := by
 simp [nameB, and_assoc]
theorem isName_eq (s : ByteArray) (h0 : 0 < s.size) : (!s.toList == ByteArray.toList ⟨#[]⟩ && decide ((s.size : Int) ≤ 12) && decide (findI (fun b : UInt8 => otherB b.toNat == true) s.data.toList < 0) && decide (((s.data.toList.getD 0 0).toNat : Int) ≥ 65)) = nameB s := by
 have e0 : (s.toList == ByteArray.toList ⟨#[]⟩) = false := by
  cases h : (s.toList == ByteArray.toList ⟨#[]⟩) with
  | false => rfl
  | true =>
    have h1 : s = ⟨#[]⟩ := bytes_toList h
    subst h1; exact absurd h0 (by decide)
 have hl : s.data.toList.length = s.size := by simp
 rw [e0, zAl, nameB_iff]
 simp only [Bool.not_false, zBd, zA0, dEt]
 constructor
 · rintro ⟨⟨h1, h2⟩, h3⟩
   refine ⟨h0, by omega, fun j hj => ?_⟩
   cases hn : nameAt s j with
   | true => rfl
   | false =>
     exfalso
     have hex : ∃ x ∈ s.data.toList, otherB x.toNat = true ∨ (x.toNat : Int) < 0 := by
      refine ⟨s.data.toList.getD j 0, ?_, ?_⟩
      · have : j < s.data.toList.length := by omega
        simp only [List.getD, zA1 this, zC7]
        exact lGm this
      · left
        by_cases hj0 : j = 0
        · subst hj0
          unfold nameAt at hn
          generalize (s.data.toList.getD 0 0).toNat = x at hn h3 ⊢
          simp [otherB] at hn ⊢; omega
        · unfold nameAt at hn
          generalize (s.data.toList.getD j 0).toNat = x at hn ⊢
          simp [otherB, hj0] at hn ⊢; omega
     obtain ⟨x, hx, h4 | h4⟩ := hex
     · unfold findI at h2
       cases hf : s.data.toList.findIdx? (fun b : UInt8 => otherB b.toNat == true) with
       | none =>
         rw [zC6] at hf
         have := hf x hx
         rw [h4] at this; simp at this
       | some i => rw [hf] at h2; simp at h2; omega
     · omega
 · rintro ⟨_, h2, h3⟩
   have a0 := h3 0 h0
   refine ⟨⟨by omega, ?_⟩, by unfold nameAt at a0; generalize (s.data.toList.getD 0 0).toNat = x at a0 ⊢; simp at a0; omega⟩
   have : findI (fun b : UInt8 => otherB b.toNat == true) s.data.toList = -1 := findI_no fun j hj => by
    have := h3 j (by omega)
    have e : s.data.toList.getD j default = s.data.toList.getD j 0 := rfl
    rw [e]
    by_cases hj0 : j = 0
    · subst hj0; unfold nameAt at this; generalize (s.data.toList.getD 0 0).toNat = x at this ⊢; simp [otherB] at this ⊢; omega
    · unfold nameAt at this; generalize (s.data.toList.getD j 0).toNat = x at this ⊢; simp [otherB, hj0] at this ⊢; omega
   omega
theorem isName_spec (s : ByteArray) (hs : s.size ≤ 9223372036854775807) : PCall Tryz.prog 91 [.str s] (.b (nameB s)) := by
 by_cases h0 : 0 < s.size
 · refine PCall.body Tryz.func91 rfl rfl Tryz.ntmps91 rfl rfl ?_
   repeat' (first | refine aoQ rfl rfl rfl (fun hg => by first | exact std0 | exact pcW (runes1_spec s (.fn (.func 150) [] []) otherB other_call other_high hs) rfl rfl nd rfl nds) (by exact rfl) ?_ | refine sqW ?_ | refine rgK (fun K' hK => ?_) | (refine aoN (hK _ _ ?_); clear hK K') | refine rtW ?_)
   refine ⟨.inr rfl, ?_⟩
   rw [← isName_eq s h0]
   exact fun _ _ h => h
 · have e : s = ⟨#[]⟩ := by
    obtain ⟨d⟩ := s
    have : d.size = 0 := by
     have : ¬ 0 < d.size := h0
     omega
    rw [zBo this]
   subst e
   refine PCall.body Tryz.func91 rfl rfl Tryz.ntmps91 rfl rfl ?_
   repeat' (first | refine aoQ rfl rfl rfl (fun hg => by first | exact std0 | exact pcW (runes1_spec _ (.fn (.func 150) [] []) otherB other_call other_high hs) rfl rfl nd rfl nds) (by exact rfl) ?_ | refine sqW ?_ | refine rgK (fun K' hK => ?_) | (refine aoN (hK _ _ ?_); clear hK K') | refine rtW ?_)
   refine ⟨.inr rfl, ?_⟩
   show Ent (AV.b ((!ByteArray.toList ⟨#[]⟩ == ByteArray.toList ⟨#[]⟩) && _ && _ && _)) _
   rw [show (!ByteArray.toList ⟨#[]⟩ == ByteArray.toList ⟨#[]⟩) = false by simp, zBq, zBq, zBq, show nameB ⟨#[]⟩ = false by decide]
   exact fun _ _ h => h
def lettersAL (l : List Letter) : List (ByteArray × Int) := l.foldl (fun al x => ins al x.name x.pos) []
theorem lettersAL_succ (l : List Letter) (k : Nat) (h : k < l.length) : lettersAL (l.take (k + 1)) = ins (lettersAL (l.take k)) (l.getD k default).name (l.getD k default).pos := by
 unfold lettersAL
 rw [zCk h, zD6, getD_lt h]; rfl
abbrev ekS (s : ByteArray) : Value := .string s
theorem okObj_mapInt {κ : Type} (m : Nat) (ek : κ → Value) (l : List (κ × Int)) : okObj m (.map (encM ek AV.int l)) = true := by
 simp [okObj, encM, okRef]
theorem letters_spec (e : Edition) (hl : e.letters.length ≤ 9223372036854775807) : PCall Tryz.prog 92 [.agg (encE e)] (.imap (encM ekS AV.int (lettersAL e.letters))) := by
 refine PCall.body Tryz.func92 rfl rfl Tryz.ntmps92 rfl rfl ?_
 repeat' (first | refine aoQ rfl rfl rfl (fun hg => by first | exact std0 | exact std1) (by exact rfl) ?_ | refine sqW ?_ | refine rgK (fun K' hK => ?_) | (refine aoN (hK _ _ ?_); clear hK K') | refine aoE (bxW rfl rfl rfl rfl rfl tI rfl rfl ?_) | refine aoE (EStep.makeMapRW tabOk rfl rfl rfl rfl rfl tI rfl ?_) | refine blK ?_)
 refine lpD (ι := Nat) (fun k => [(1, .ptr 0 0), (3, .map 1), (11, .sl 2 (e.letters.map encL) .no), (12, .int e.letters.length), (13, .int k)]) (fun k => [.var (encE e), .map (encM ekS AV.int (lettersAL (e.letters.take k)))])
  (fun k => k ≤ e.letters.length) (fun k => e.letters.length - k) 2 (fun _ => rfl) 0 (nZl _) ⟨rfl, rfl, rfl, rfl, rfl, tI⟩ rfl (fun _ _ => rfl) (fun k _ => by simp [okObj_mapInt]; rfl) ?_
 intro k hk
 by_cases hlt : k < e.letters.length
 · repeat' (first | refine aoQ rfl rfl rfl (fun hg => by first | exact std0 | exact std1) (by exact rfl) ?_ | refine sqW ?_ | refine rgK (fun K' hK => ?_) | (refine aoN (hK _ _ ?_); clear hK K') | refine aoE (stW tabOk rfl rfl rfl tI rfl rfl tI rfl rfl rfl rfl rfl rfl rfl ?_) | refine aoE (alW tabOk rfl rfl rfl rfl rfl rfl ?_) | refine aoE (EStep.mapUpd (ek := ekS) (ev := AV.int) (keyLaw_str (LOk.of (tabOk.get rfl))) (LOk.of (tabOk.get rfl)) rfl rfl rfl (Rd.w rfl tI) rfl (Rd.w rfl tI) rfl (Rd.w rfl tI) ?_) | refine cdN rfl tI (fun hc => ?_) (fun hc => ?_) | refine blK ?_ | refine exW ?_ | refine skW ?_ | refine rtW ?_)
   · exact ⟨k + 1, by omega, by omega, ⟨rfl, rfl, rfl, rfl, rfl, tI⟩, by rw [lettersAL_succ _ _ hlt]; rfl⟩
   · exfalso; omega
 · repeat' (first | refine aoQ rfl rfl rfl (fun hg => by first | exact std0 | exact std1) (by exact rfl) ?_ | refine sqW ?_ | refine rgK (fun K' hK => ?_) | (refine aoN (hK _ _ ?_); clear hK K') | refine aoE (stW tabOk rfl rfl rfl tI rfl rfl tI rfl rfl rfl rfl rfl rfl rfl ?_) | refine aoE (alW tabOk rfl rfl rfl rfl rfl rfl ?_) | refine cdN rfl tI (fun hc => ?_) (fun hc => ?_) | refine blK ?_ | refine exW ?_ | refine skW ?_)
   · exfalso; omega
   · refine AWP.freezeMap (ek := ekS) (ev := AV.int) (l := 1) rfl pureE_int ?_
     refine rtW ⟨.inr rfl, ?_⟩
     rw [show e.letters.take k = e.letters from zAi (by omega)]
     exact fun _ _ h => h
theorem getD_mem {α : Type} [Inhabited α] {l : List α} {k : Nat} (h : k < l.length) : l.getD k default ∈ l := by
 rw [getD_lt h]; exact lGm h
theorem idxP_spec (l : List Printed) (fv : AV) (p : Printed → Bool) (hp : ∀ x ∈ l, FnCall Tryz.prog fv [.agg (encP x)] (.b (p x))) (hl : l.length ≤ 9223372036854775807) :
 PCall Tryz.prog 94 [.sl 3 (l.map encP) .no, fv] (.int (findI p l)) := by
 refine PCall.bodyX [1] Tryz.func94 rfl rfl Tryz.ntmps94 rfl rfl ?_
 repeat' (first | refine aoQ rfl rfl rfl (fun hg => by first | exact std0 | exact std1) (by exact rfl) ?_ | refine sqW ?_ | refine rgK (fun K' hK => ?_) | (refine aoN (hK _ _ ?_); clear hK K') | refine blK ?_)
 refine lpW (ι := Nat) (fun k => [(0, .sl 3 (l.map encP) .no), (1, .ext fv), (7, .int l.length), (8, .int k)]) (fun _ => []) (fun k => k ≤ l.length ∧ ∀ j, j < k → p (l.getD j default) = false) (fun k => l.length - k) 0 ⟨nZl _, fun j h => absurd h (by omega)⟩ ⟨rfl, rfl, rfl, rfl, tI⟩ rfl ?_
 rintro k ⟨hk, hall⟩
 by_cases hlt : k < l.length
 · repeat' (first | refine aoQ rfl rfl rfl (fun hg => by first | exact std0 | exact PRun.callV (hp _ (getD_mem hlt)) rfl rfl nd rfl nds | exact std1) (by exact rfl) ?_ | refine sqW ?_ | refine rgK (fun K' hK => ?_) | (refine aoN (hK _ _ ?_); clear hK K') | refine cdN rfl tI (fun hc => ?_) (fun hc => ?_) | refine blK ?_ | refine exW ?_ | refine skW ?_ | refine rtW ?_)
   · refine ⟨.inr rfl, ?_⟩
     rw [show findI p l = k from findI_at hlt hc hall]
     exact fun _ _ h => h
   · exact ⟨k + 1, ⟨by omega, fun j hj => lt_succ_cases hall hc hj⟩, by omega, ⟨rfl, rfl, rfl, rfl, tI⟩, rfl⟩
   · exfalso; omega
 · repeat' (first | refine aoQ rfl rfl rfl (fun hg => by first | exact std0 | exact std1) (by exact rfl) ?_ | refine sqW ?_ | refine rgK (fun K' hK => ?_) | (refine aoN (hK _ _ ?_); clear hK K') | refine cdN rfl tI (fun hc => ?_) (fun hc => ?_) | refine blK ?_ | refine exW ?_ | refine skW ?_ | refine rtW ?_)
   · exfalso; omega
   · refine ⟨.inr rfl, ?_⟩
     rw [show findI p l = -1 from findI_no fun j hj => hall j (by omega)]
     exact fun _ _ h => h
theorem idxL_spec (l : List Letter) (fv : AV) (p : Letter → Bool) (hp : ∀ x ∈ l, FnCall Tryz.prog fv [.agg (encL x)] (.b (p x))) (hl : l.length ≤ 9223372036854775807) :
 PCall Tryz.prog 208 [.sl 2 (l.map encL) .no, fv] (.int (findI p l)) := by
 refine PCall.bodyX [1] Tryz.func208 rfl rfl Tryz.ntmps208 rfl rfl ?_
 repeat' (first | refine aoQ rfl rfl rfl (fun hg => by first | exact std0 | exact std1) (by exact rfl) ?_ | refine sqW ?_ | refine rgK (fun K' hK => ?_) | (refine aoN (hK _ _ ?_); clear hK K') | refine blK ?_)
 refine lpW (ι := Nat) (fun k => [(0, .sl 2 (l.map encL) .no), (1, .ext fv), (7, .int l.length), (8, .int k)]) (fun _ => []) (fun k => k ≤ l.length ∧ ∀ j, j < k → p (l.getD j default) = false) (fun k => l.length - k) 0 ⟨nZl _, fun j h => absurd h (by omega)⟩ ⟨rfl, rfl, rfl, rfl, tI⟩ rfl ?_
 rintro k ⟨hk, hall⟩
 by_cases hlt : k < l.length
 · repeat' (first | refine aoQ rfl rfl rfl (fun hg => by first | exact std0 | exact PRun.callV (hp _ (getD_mem hlt)) rfl rfl nd rfl nds | exact std1) (by exact rfl) ?_ | refine sqW ?_ | refine rgK (fun K' hK => ?_) | (refine aoN (hK _ _ ?_); clear hK K') | refine cdN rfl tI (fun hc => ?_) (fun hc => ?_) | refine blK ?_ | refine exW ?_ | refine skW ?_ | refine rtW ?_)
   · refine ⟨.inr rfl, ?_⟩
     rw [show findI p l = k from findI_at hlt hc hall]
     exact fun _ _ h => h
   · exact ⟨k + 1, ⟨by omega, fun j hj => lt_succ_cases hall hc hj⟩, by omega, ⟨rfl, rfl, rfl, rfl, tI⟩, rfl⟩
   · exfalso; omega
 · repeat' (first | refine aoQ rfl rfl rfl (fun hg => by first | exact std0 | exact std1) (by exact rfl) ?_ | refine sqW ?_ | refine rgK (fun K' hK => ?_) | (refine aoN (hK _ _ ?_); clear hK K') | refine cdN rfl tI (fun hc => ?_) (fun hc => ?_) | refine blK ?_ | refine exW ?_ | refine skW ?_ | refine rtW ?_)
   · exfalso; omega
   · refine ⟨.inr rfl, ?_⟩
     rw [show findI p l = -1 from findI_no fun j hj => hall j (by omega)]
     exact fun _ _ h => h
theorem contP_spec (l : List Printed) (fv : AV) (p : Printed → Bool) (hp : ∀ x ∈ l, FnCall Tryz.prog fv [.agg (encP x)] (.b (p x))) (hl : l.length ≤ 9223372036854775807) :
 PCall Tryz.prog 151 [.sl 3 (l.map encP) .no, fv] (.b (decide (findI p l ≥ 0))) := by
 refine PCall.bodyX [1] Tryz.func151 rfl rfl Tryz.ntmps151 rfl rfl ?_
 repeat' (first | refine aoQ rfl rfl rfl (fun hg => by first | exact std0 | exact pcW (idxP_spec l fv p hp hl) rfl rfl nd rfl nds) (by exact rfl) ?_ | refine sqW ?_ | refine rgK (fun K' hK => ?_) | (refine aoN (hK _ _ ?_); clear hK K') | refine rtW ?_)
 exact ⟨.inr rfl, fun _ _ h => h⟩
theorem contL_spec (l : List Letter) (fv : AV) (p : Letter → Bool) (hp : ∀ x ∈ l, FnCall Tryz.prog fv [.agg (encL x)] (.b (p x))) (hl : l.length ≤ 9223372036854775807) :
 PCall Tryz.prog 175 [.sl 2 (l.map encL) .no, fv] (.b (decide (findI p l ≥ 0))) := by
 refine PCall.bodyX [1] Tryz.func175 rfl rfl Tryz.ntmps175 rfl rfl ?_
 repeat' (first | refine aoQ rfl rfl rfl (fun hg => by first | exact std0 | exact pcW (idxL_spec l fv p hp hl) rfl rfl nd rfl nds) (by exact rfl) ?_ | refine sqW ?_ | refine rgK (fun K' hK => ?_) | (refine aoN (hK _ _ ?_); clear hK K') | refine rtW ?_)
 exact ⟨.inr rfl, fun _ _ h => h⟩
theorem anyP_spec (l : List Printed) (fv : AV) (p : Printed → Bool) (hp : ∀ x ∈ l, FnCall Tryz.prog fv [.agg (encP x)] (.b (p x))) (hl : l.length ≤ 9223372036854775807) :
 PCall Tryz.prog 95 [.sl 3 (l.map encP) .no, fv] (.b (decide (findI p l ≥ 0))) := by
 refine PCall.bodyX [1] Tryz.func95 rfl rfl Tryz.ntmps95 rfl rfl ?_
 repeat' (first | refine aoQ rfl rfl rfl (fun hg => by first | exact std0 | exact pcW (contP_spec l fv p hp hl) rfl rfl nd rfl nds) (by exact rfl) ?_ | refine sqW ?_ | refine rgK (fun K' hK => ?_) | (refine aoN (hK _ _ ?_); clear hK K') | refine rtW ?_)
 exact ⟨.inr rfl, fun _ _ h => h⟩
theorem anyL_spec (l : List Letter) (fv : AV) (p : Letter → Bool) (hp : ∀ x ∈ l, FnCall Tryz.prog fv [.agg (encL x)] (.b (p x))) (hl : l.length ≤ 9223372036854775807) :
 PCall Tryz.prog 130 [.sl 2 (l.map encL) .no, fv] (.b (decide (findI p l ≥ 0))) := by
 refine PCall.bodyX [1] Tryz.func130 rfl rfl Tryz.ntmps130 rfl rfl ?_
 repeat' (first | refine aoQ rfl rfl rfl (fun hg => by first | exact std0 | exact pcW (contL_spec l fv p hp hl) rfl rfl nd rfl nds) (by exact rfl) ?_ | refine sqW ?_ | refine rgK (fun K' hK => ?_) | (refine aoN (hK _ _ ?_); clear hK K') | refine rtW ?_)
 exact ⟨.inr rfl, fun _ _ h => h⟩
def badBar (b : Printed) : Bool := !inB b.number 0 100000 || !inB b.bar 1 1000000 || !inB b.pass 0 9
def badLet (e : Edition) (l : Letter) : Bool := !nameB l.name || !inB l.pos 0 ((e.bars.length : Int) - 1)
theorem badBar_spec (b : Printed) : PCall Tryz.prog 128 [.agg (encP b)] (.b (badBar b)) := by
 refine PCall.body Tryz.func128 rfl rfl Tryz.ntmps128 rfl rfl ?_
 repeat' (first | refine aoQ rfl rfl rfl (fun hg => by first | exact std0 | exact pcW (within_spec _ _ _) rfl rfl nd rfl nds) (by exact rfl) ?_ | refine sqW ?_ | refine rgK (fun K' hK => ?_) | (refine aoN (hK _ _ ?_); clear hK K') | refine aoE (bxW rfl rfl rfl rfl rfl tI rfl rfl ?_) | refine rtW ?_)
 exact ⟨.inr rfl, fun _ _ h => h⟩
theorem badLet_spec (e : Edition) (l : Letter) (hn : l.name.size ≤ 9223372036854775807) (hb : e.bars.length ≤ 9223372036854775807) : PCall Tryz.prog 129 [.agg (encL l), .iptr (encE e)] (.b (badLet e l)) := by
 refine PCall.body Tryz.func129 rfl rfl Tryz.ntmps129 rfl rfl ?_
 repeat' (first | refine aoQ rfl rfl rfl (fun hg => by first | exact std0 | exact pcW (within_spec _ _ _) rfl rfl nd rfl nds | exact pcW (isName_spec l.name hn) rfl rfl nd rfl nds | exact std1) (by exact rfl) ?_ | refine sqW ?_ | refine rgK (fun K' hK => ?_) | (refine aoN (hK _ _ ?_); clear hK K') | refine aoE (bxW rfl rfl rfl rfl rfl tI rfl rfl ?_) | refine rtW ?_)
 exact ⟨.inr rfl, fun _ _ h => h⟩
structure Wf (e : Edition) : Prop where
 bars : e.bars.length ≤ 9223372036854775807
 letters : e.letters.length ≤ 9223372036854775807
 names : ∀ x ∈ e.letters, x.name.size ≤ 9223372036854775807
def formed' (e : Edition) : Bool := !decide (findI badBar e.bars ≥ 0) && !decide (findI (badLet e) e.letters ≥ 0) && ((lettersAL e.letters).length : Int) == (e.letters.length : Int)
theorem formed_spec (e : Edition) (hw : Wf e) : PCall Tryz.prog 71 [.agg (encE e)] (.b (headOk e && formed' e)) := by
 refine PCall.body Tryz.func71 rfl rfl Tryz.ntmps71 rfl rfl ?_
 have hbar : ∀ x ∈ e.bars, FnCall Tryz.prog (.fn (.func 128) [] []) [.agg (encP x)] (.b (badBar x)) := fun x _ => ⟨128, [], [], rfl, badBar_spec x⟩
 have hlet : ∀ x ∈ e.letters, FnCall Tryz.prog (.fn (.func 129) [] [.iptr (encE e)]) [.agg (encL x)] (.b (badLet e x)) := fun x hx => ⟨129, [], [.iptr (encE e)], rfl, badLet_spec e x (hw.names x hx) hw.bars⟩
 repeat' (first | refine aoQ rfl rfl rfl (fun hg => by first | exact std0 | exact pcW (within_spec _ _ _) rfl rfl nd rfl nds | exact std1) (by exact rfl) ?_ | refine sqW ?_ | refine rgK (fun K' hK => ?_) | (refine aoN (hK _ _ ?_); clear hK K') | refine aoE (bxW rfl rfl rfl rfl rfl tI rfl rfl ?_) | refine cdN rfl tI (fun hc => ?_) (fun hc => ?_) | refine skW ?_ | refine rtW ?_ | refine dK2 (by decide +kernel) (by kernel_rfl) (by decide +kernel) rfl (fun K' hK => ?_) | (refine aqN (hK _ ?_); clear hK K') | refine aqQ rfl rfl (fun hg => by first | exact std0 | exact pcW (anyP_spec e.bars (.fn (.func 128) [] []) badBar hbar hw.bars) rfl rfl nd rfl nds | exact pbW (anyL_spec e.letters (.fn (.func 129) [] [.iptr (encE e)]) (badLet e) hlet hw.letters) rfl rfl nd rfl rfl nds | exact pcW (letters_spec e hw.letters) rfl rfl nd rfl nds | exact PRun.lenMap rfl (Rd.w rfl nd) (Or.inl rfl) (LOk.of (tabOk.get rfl)) | exact std1) (by exact rfl) ?_)
 · have : headOk e = false := by simp [headOk, inB] at hc ⊢; omega
   refine ⟨.inr rfl, ?_⟩
   rw [this]; exact fun _ _ h => h
 · have : headOk e = true := by simp [headOk, inB] at hc ⊢; omega
   refine ⟨.inr rfl, ?_⟩
   rw [this]; exact fun _ _ h => h
theorem findI_any {α : Type} [Inhabited α] (p : α → Bool) (l : List α) : (!decide (findI p l ≥ 0)) = l.all fun x => !p x := by
 rw [zAl]
 simp only [zB8, dEf, zA6]
 constructor
 · intro h x hx
   cases hpx : p x with
   | false => rfl
   | true =>
     exfalso; apply h
     unfold findI
     cases hf : l.findIdx? p with
     | none => rw [zC6] at hf; have := hf x hx; rw [hpx] at this; cases this
     | some i => simp
 · intro h h2
   obtain ⟨k, _, hk, hpk, _⟩ := findI_lt h2
   have := h _ (getD_mem hk)
   rw [hpk] at this; cases this
theorem ins_keys {κ α : Type} [DecidableEq κ] (al : List (κ × α)) (k : κ) (v : α) : (ins al k v).map (·.1) = if k ∈ al.map (·.1) then al.map (·.1) else al.map (·.1) ++ [k] := by
 induction al with
 | nil => simp [ins]
 | cons p r ih =>
   obtain ⟨k', v'⟩ := p
   simp only [ins]
   by_cases h : k' = k
   · subst h; simp
   · rw [if_neg h]
     simp only [zBt, ih, zB3]
     have h' : ¬ k = k' := fun e => h e.symm
     by_cases h2 : k ∈ r.map (·.1)
     · simp [h2]
     · simp [h2, h']
theorem fold_len (l : List Letter) : ∀ (acc : List (ByteArray × Int)), (l.foldl (fun al x => ins al x.name x.pos) acc).length ≤ acc.length + l.length ∧
 ((l.foldl (fun al x => ins al x.name x.pos) acc).length = acc.length + l.length ↔ (l.map (·.name)).Nodup ∧ ∀ x ∈ l, x.name ∉ acc.map (·.1)) := by
 induction l with
 | nil => intro acc; simp
 | cons x r ih =>
   intro acc
   simp only [List.foldl_cons, zAe]
   obtain ⟨h1, h2⟩ := ih (ins acc x.name x.pos)
   have hk := ins_keys acc x.name x.pos
   by_cases hx : x.name ∈ acc.map (·.1)
   · rw [if_pos hx] at hk
     have hlen : (ins acc x.name x.pos).length = acc.length := by have := congrArg List.length hk; simpa using this
     rw [hlen] at h1
     refine ⟨by omega, ⟨fun h => by omega, fun h => absurd hx (h.2 x (zAt ..))⟩⟩
   · rw [if_neg hx] at hk
     have hlen : (ins acc x.name x.pos).length = acc.length + 1 := by have := congrArg List.length hk; simpa using this
     rw [hlen] at h1 h2
     refine ⟨by omega, ?_⟩
     rw [show acc.length + (r.length + 1) = acc.length + 1 + r.length by omega, h2, hk]
     simp only [zBt, List.nodup_cons, zC1, zAf, not_or, zB3]
     constructor
     · rintro ⟨h3, h4⟩
       refine ⟨⟨fun hm => ?_, h3⟩, fun y hy => ?_⟩
       · obtain ⟨y, hy, he⟩ := zB4.1 hm
         exact (h4 y hy).2.1 he
       · rcases hy with rfl | hy
         · exact hx
         · exact (h4 y hy).1
     · rintro ⟨⟨h3, h4⟩, h5⟩
       exact ⟨h4, fun y hy => ⟨h5 y (.inr hy), fun he => h3 (zB4.2 ⟨y, hy, he⟩), by simp⟩⟩
theorem nodup_iff (l : List Letter) : ((lettersAL l).length : Int) = (l.length : Int) ↔ ∀ i, i < l.length → letterI l (l.getD i default).name = i := by
 have h := (fold_len l []).2
 simp only [zAn, zBn] at h
 have e : ((lettersAL l).length : Int) = (l.length : Int) ↔ (lettersAL l).length = l.length := by omega
 rw [e]
 unfold lettersAL
 rw [h]
 simp only [List.map_nil, zCs, not_false_eq_true, implies_true, and_true]
 constructor
 · intro hn i hi
   refine findI_at hi (by simp) fun j hj => ?_
   cases hb : (l.getD j default).name.toList == (l.getD i default).name.toList with
   | false => rfl
   | true =>
     exfalso
     have he := bytes_toList hb
     have hj' : j < l.length := by omega
     rw [getD_lt hj', getD_lt hi] at he
     rw [List.nodup_iff_pairwise_ne, zBr] at hn
     exact hn j i (by simpa using hj') (by simpa using hi) hj (by simpa using he)
 · intro hall
   rw [List.nodup_iff_pairwise_ne, zBr]
   intro i j hi hj hij he
   simp at hi hj he
   have h1 := hall j hj
   obtain ⟨k, hk1, hk2, hk3, hk4⟩ := findI_lt (p := fun x : Letter => x.name.toList == (l.getD j default).name.toList) (l := l) (by show 0 ≤ letterI l _; rw [h1]; omega)
   have h2 : (k : Int) = j := by rw [← hk1]; exact h1
   have h3 := hk4 i (by omega)
   rw [getD_lt hi, getD_lt hj, he] at h3
   simp at h3
theorem formed_eq (e : Edition) : (headOk e && formed' e) = formB e := by
 unfold formB formed'
 rw [findI_any, findI_any, Bool.and_assoc (headOk e)]
 congr 1
 have e1 : (e.bars.all fun x => !badBar x) = e.bars.all barOk := by
  congr 1; funext x; unfold badBar barOk
  cases inB x.number 0 100000 <;> cases inB x.bar 1 1000000 <;> cases inB x.pass 0 9 <;> rfl
 rw [e1, Bool.and_assoc]
 congr 1
 rw [zAl]
 simp only [zA0, zA6, zAu, beq_iff_eq, nodup_iff]
 constructor
 · rintro ⟨h1, h2⟩ i hi
   have := h1 _ (getD_mem hi)
   unfold badLet at this
   unfold letOk
   rw [h2 i hi]
   revert this
   cases nameB (e.letters.getD i default).name <;> cases inB (e.letters.getD i default).pos 0 (↑e.bars.length - 1) <;> simp
 · intro h
   refine ⟨fun x hx => ?_, fun i hi => ?_⟩
   · obtain ⟨i, hi, rfl⟩ := zB0.1 hx
     have := h i hi
     rw [← getD_lt hi]
     unfold letOk at this
     unfold badLet
     revert this
     cases nameB (e.letters.getD i default).name <;> cases inB (e.letters.getD i default).pos 0 (↑e.bars.length - 1) <;> simp
   · have := h i hi
     unfold letOk at this
     simp only [zA0, beq_iff_eq] at this
     exact this.2
theorem formed_form (e : Edition) (hw : Wf e) : PCall Tryz.prog 71 [.agg (encE e)] (.b (formB e)) := formed_eq e ▸ formed_spec e hw
end Go.Proofs.YtdglbdfdkabjfaaGreatDoor.Ed
