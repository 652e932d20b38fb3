/- Contracts by content: a deed among tablets. No statement is proved here. -/
import Derived.Test.YtbneeinknlddaaaGreatQ25
import Derived.Test.YtbneeinknlddaaaGreatQ26
set_option linter.unusedSectionVars false
set_option linter.unusedVariables false
set_option linter.unusedSimpArgs false
namespace Go.Proofs.YtbneeinknlddaaaGreat
open Go.Ab Go.Jo Go.Sy
attribute [local irreducible] AWP AOps EStep AQ PStep PRun PCall TCall VCall DStep TDies AWD DCall
def encDeed (d : Sy.Deed) : List AV := [.prim (.int .u8 (d.what : Int)), .prim (.int .u8 (d.at_ : Int)), .prim (.int .u8 (d.with_ : Int)), .prim (.int .u16 (d.cut : Int)), .int d.mark.id, .int d.mark.kind, .int d.mark.layer, .int d.mark.who.part, .int d.mark.who.desk, .int d.mark.who.seat, .int d.mark.version, .int d.mark.note, .int d.mark.value, .bs d.mark.text]
structure DeedIn (d : Sy.Deed) : Prop where
 w : d.what ≤ 255
 a : d.at_ ≤ 255
 o : d.with_ ≤ 255
 c : d.cut ≤ 65535
 t : d.mark.text.length ≤ 9223372036854775807
theorem conv8 {n : Nat} (h : n ≤ 255) : IntKind.i64.wrap (n : Int) = (n : Int) := by rw [IntKind.wrap_i64]; omega
theorem conv16 {n : Nat} (h : n ≤ 65535) : IntKind.i64.wrap (n : Int) = (n : Int) := by rw [IntKind.wrap_i64]; omega
theorem remN (a b : Nat) : (a : Int).tmod (b : Int) = ((a % b : Nat) : Int) := tmodN a b
theorem okTabs (l : List Sy.Tab) (ver : Nat) : [AObj.arr 10 ver (l.map encTab)].all (okObj 1) = true := by
 simp [okObj, encTab, okRef]
def clsT (l : List Nat) (o : Oper) : Nat := match o.op, o.dst with
 | .alloc _, some d => ((l.idxOf? d).map (· + 1)).getD 0
 | .store _ (.tmp t) _, _ => ((l.idxOf? t).map (· + 1)).getD 0
 | _, _ => 0
def cellT (x : Sy.Tab) (k : Nat) : AObj := match k with
 | 0 => .arr 10 0 []
 | 1 => .arr 10 1 [zeroTab]
 | _ => .arr 10 1 [encTab x]
abbrev cells2 (s : Store) (x y : Sy.Tab) (i j : Nat) : Store := s ++ [cellT x i, cellT y j]
abbrev tabS (n ver : Nat) (t : Nat → Sy.Tab) : Store := [.arr 10 ver ((tabsL n t).map encTab)]
theorem clockE_in {l : List Ev} (h : ∀ e ∈ l, evOk e = true) : -1 ≤ clockE l ∧ clockE l ≤ 1000000000 := by
 have key : ∀ (l : List Ev) (n : Int), (∀ e ∈ l, evOk e = true) → -1 ≤ n → n ≤ 1000000000 → -1 ≤ l.foldl (fun n e => max n e.clock) n ∧ l.foldl (fun n e => max n e.clock) n ≤ 1000000000 := fun l => by
  induction l with
  | nil => intro n _ h1 h2; exact ⟨h1, h2⟩
  | cons x l ih =>
    intro n hx h1 h2
    have hc := hx x (zAn ..)
    unfold evOk at hc
    simp only [zA2] at hc
    have hc := inR_iff.1 hc.1.1
    rw [zD1]
    exact ih _ (fun e he => hx e (zAj _ he)) (by omega) (by omega)
 exact key l (-1) h (by omega) (by omega)
set_option maxHeartbeats 6400000 in
set_option maxRecDepth 20000 in
theorem do_T {n m : Nat} {t : Nat → Sy.Tab} (hn : 0 < n) (hn4 : n ≤ 4) (hm : m < 90) (h : In n m t) (d : Sy.Deed) (hd : DeedIn d) (ver : Nat) :
 TCall Tryz.prog 19 [.sla 0 10 0 n ver, .agg (encDeed d)] (tabS n ver t) (fun r s => r = .b true ∧ s = tabS n ver (doT n t d).2) := by
 have hi : d.at_ % n < n := zCo _ hn
 have hk : d.with_ % n < n := zCo _ hn
 have vT := in_valid h hi
 have vU := in_valid h hk
 have f1 := do_bad hn hm h d
 have f2 := do_down hn hm h d
 have f3 := do_write hn hm h d
 have f4 := do_self hn hm h d
 have f5 := do_one hn hm h d
 have f6 := do_exch hn hm h d
 have f7 := do_crash hn hm h d
 have f8 := do_crashed hn hm h d
 have f9 := do_awake hn hm h d
 have f10 := do_wake hn hm h d
 have r1 := remN d.at_ n
 have r2 := remN d.with_ n
 have r3 : (d.cut : Int).tmod 1001 = ((d.cut % 1001 : Nat) : Int) := tmodN d.cut 1001
 have r4 : (d.what : Int).tmod 5 = ((d.what % 5 : Nat) : Int) := tmodN d.what 5
 have b3 : d.cut % 1001 < 1001 := zCo _ (by decide)
 have c1 := conv8 hd.a
 have c2 := conv8 hd.o
 have c3 := conv16 hd.c
 obtain ⟨i, ei⟩ : ∃ i, d.at_ % n = i := ⟨_, rfl⟩
 obtain ⟨k, ek⟩ : ∃ k, d.with_ % n = k := ⟨_, rfl⟩
 rw [ei] at hi vT f1 f2 f3 f4 f5 f6 f7 f8 f9 f10 r1
 rw [ek] at hk vU f4 f5 f6 r2
 have eT := tabs_at (t := t) hi
 have eU := tabs_at (t := t) hk
 have iT := tabIn_of vT
 have lenT := tabs_len n t
 have oT := (validE_iff.1 (validT_evs vT)).1
 have cl := clock42_spec (t i).s.evs iT.evs
 have ci := clockE_in oT
 have hdo : d.what % 5 = 0 ∨ d.what % 5 = 1 ∨ d.what % 5 = 2 ∨ d.what % 5 = 3 ∨ d.what % 5 = 4 := by omega
 refine TCall.body Tryz.func19 rfl rfl Tryz.ntmps19 rfl rfl ?_
 repeat' (first | refine aoQ rfl rfl rfl (fun hg => by first | exact PRun.eq (v := .agg (encTab ((tabsL n t).getD ((i : Nat) : Int).toNat default))) (PRun.loadEM (f := encTab) (xs := tabsL n t) tabOk rfl rfl nd rfl (by omega) rfl rfl) (congrArg (fun x => AV.agg (encTab x)) eT) | exact std0 | exact PRun.indexA0 tabOk rfl rfl nd rfl nd rfl (zA0 _) rfl ⟨by omega, by omega⟩) (by exact rfl) ?_ | refine sqW ?_ | refine rgK (fun K' hK => ?_) | (refine aoN (hK _ _ ?_); clear hK K') | refine aoE (bxW rfl rfl rfl rfl rfl tI rfl rfl ?_) | refine aoE (stW tabOk rfl rfl rfl tI rfl rfl tI rfl rfl rfl rfl rfl rfl rfl ?_) | refine aoE (alW tabOk rfl rfl rfl rfl rfl rfl ?_) | refine dK2 (by decide +kernel) (by kernel_rfl) (by decide +kernel) rfl (fun K' hK => ?_) | (refine aqN (hK _ ?_); clear hK K') | refine aqQ rfl rfl (fun hg => by first | exact PRun.remV r2 (by omega) rfl rfl nd rfl nd | exact PRun.remV r1 (by omega) rfl rfl nd rfl nd | exact PRun.convV tabOk c2 rfl rfl nd rfl rfl | exact PRun.convV tabOk c1 rfl rfl nd rfl rfl | exact std0 | exact PRun.lenA tabOk rfl rfl nd rfl) (by exact rfl) ?_)
 refine AWP.drawY (fun j => match j with | 0 => [.arr 10 ver ((tabsL n t).map encTab), .var (encDeed d), .var (encTab (t i))] | 1 => [.arr 10 ver ((tabsL n t).map encTab), .var (encDeed d), .var (encTab (t i)), .var (encE noEv)] | _ => [.arr 10 ver ((tabsL n t).map encTab), .var (encDeed d), .var (encTab (t i)), .var (encE ⟨clockE (t i).s.evs + 1, (t i).s.id, 3, ((d.cut % 1001 : Nat) : Int), noMark⟩)]) rfl (by kernel_rfl) (by decide +kernel) rfl (by decide +kernel) (fun K' hK => ?_)
 repeat' (first
  | refine yqQ (a := 0) (b := 0) rfl (by decide +kernel) (by decide +kernel) rfl rfl rfl (fun k h1 h2 hg => by (have hk : k = 0 := (by omega)); (rcases hk with rfl) <;> (first | exact PRun.remV r3 (by omega) rfl rfl nd rfl nd | exact PRun.convV tabOk c3 rfl rfl nd rfl rfl | exact PRun.convV tabOk c2 rfl rfl nd rfl rfl | exact PRun.convV tabOk c1 rfl rfl nd rfl rfl | exact std0 | exact pcW (cl) rfl rfl nd rfl nds | exact pbD tabOk rfl rfl nds | exact std1)) (by exact rfl) ?_
  | refine yqQ (a := 0) (b := 1) rfl (by decide +kernel) (by decide +kernel) rfl rfl rfl (fun k h1 h2 hg => by (have hk : k = 0 ∨ k = 1 := (by omega)); (rcases hk with rfl | rfl) <;> (first | exact PRun.remV r3 (by omega) rfl rfl nd rfl nd | exact PRun.convV tabOk c3 rfl rfl nd rfl rfl | exact PRun.convV tabOk c2 rfl rfl nd rfl rfl | exact PRun.convV tabOk c1 rfl rfl nd rfl rfl | exact std0 | exact pcW (cl) rfl rfl nd rfl nds | exact pbD tabOk rfl rfl nds | exact std1)) (by exact rfl) ?_
  | refine yqQ (a := 1) (b := 1) rfl (by decide +kernel) (by decide +kernel) rfl rfl rfl (fun k h1 h2 hg => by (have hk : k = 1 := (by omega)); (rcases hk with rfl) <;> (first | exact PRun.remV r3 (by omega) rfl rfl nd rfl nd | exact PRun.convV tabOk c3 rfl rfl nd rfl rfl | exact PRun.convV tabOk c2 rfl rfl nd rfl rfl | exact PRun.convV tabOk c1 rfl rfl nd rfl rfl | exact std0 | exact pcW (cl) rfl rfl nd rfl nds | exact pbD tabOk rfl rfl nds | exact std1)) (by exact rfl) ?_
  | refine yqQ (a := 0) (b := 2) rfl (by decide +kernel) (by decide +kernel) rfl rfl rfl (fun k h1 h2 hg => by (have hk : k = 0 ∨ k = 1 ∨ k = 2 := (by omega)); (rcases hk with rfl | rfl | rfl) <;> (first | exact PRun.remV r3 (by omega) rfl rfl nd rfl nd | exact PRun.convV tabOk c3 rfl rfl nd rfl rfl | exact PRun.convV tabOk c2 rfl rfl nd rfl rfl | exact PRun.convV tabOk c1 rfl rfl nd rfl rfl | exact std0 | exact pcW (cl) rfl rfl nd rfl nds | exact pbD tabOk rfl rfl nds | exact std1)) (by exact rfl) ?_
  | refine yqQ (a := 1) (b := 2) rfl (by decide +kernel) (by decide +kernel) rfl rfl rfl (fun k h1 h2 hg => by (have hk : k = 1 ∨ k = 2 := (by omega)); (rcases hk with rfl | rfl) <;> (first | exact PRun.remV r3 (by omega) rfl rfl nd rfl nd | exact PRun.convV tabOk c3 rfl rfl nd rfl rfl | exact PRun.convV tabOk c2 rfl rfl nd rfl rfl | exact PRun.convV tabOk c1 rfl rfl nd rfl rfl | exact std0 | exact pcW (cl) rfl rfl nd rfl nds | exact pbD tabOk rfl rfl nds | exact std1)) (by exact rfl) ?_
  | refine yqQ (a := 2) (b := 2) rfl (by decide +kernel) (by decide +kernel) rfl rfl rfl (fun k h1 h2 hg => by (have hk : k = 2 := (by omega)); (rcases hk with rfl) <;> (first | exact PRun.remV r3 (by omega) rfl rfl nd rfl nd | exact PRun.convV tabOk c3 rfl rfl nd rfl rfl | exact PRun.convV tabOk c2 rfl rfl nd rfl rfl | exact PRun.convV tabOk c1 rfl rfl nd rfl rfl | exact std0 | exact pcW (cl) rfl rfl nd rfl nds | exact pbD tabOk rfl rfl nds | exact std1)) (by exact rfl) ?_)
 refine YQ.e (v := .ptr 3 0) (d := some 8) rfl rfl rfl ?_ ?_
 · intro env' he
   exact alW tabOk rfl rfl rfl rfl rfl rfl ⟨rfl, rfl⟩
 repeat' (first
  | refine yqQ (a := 0) (b := 0) rfl (by decide +kernel) (by decide +kernel) rfl rfl rfl (fun k h1 h2 hg => by (have hk : k = 0 := (by omega)); (rcases hk with rfl) <;> (first | exact PRun.remV r3 (by omega) rfl rfl nd rfl nd | exact PRun.convV tabOk c3 rfl rfl nd rfl rfl | exact PRun.convV tabOk c2 rfl rfl nd rfl rfl | exact PRun.convV tabOk c1 rfl rfl nd rfl rfl | exact std0 | exact pcW (cl) rfl rfl nd rfl nds | exact pbD tabOk rfl rfl nds | exact std1)) (by exact rfl) ?_
  | refine yqQ (a := 0) (b := 1) rfl (by decide +kernel) (by decide +kernel) rfl rfl rfl (fun k h1 h2 hg => by (have hk : k = 0 ∨ k = 1 := (by omega)); (rcases hk with rfl | rfl) <;> (first | exact PRun.remV r3 (by omega) rfl rfl nd rfl nd | exact PRun.convV tabOk c3 rfl rfl nd rfl rfl | exact PRun.convV tabOk c2 rfl rfl nd rfl rfl | exact PRun.convV tabOk c1 rfl rfl nd rfl rfl | exact std0 | exact pcW (cl) rfl rfl nd rfl nds | exact pbD tabOk rfl rfl nds | exact std1)) (by exact rfl) ?_
  | refine yqQ (a := 1) (b := 1) rfl (by decide +kernel) (by decide +kernel) rfl rfl rfl (fun k h1 h2 hg => by (have hk : k = 1 := (by omega)); (rcases hk with rfl) <;> (first | exact PRun.remV r3 (by omega) rfl rfl nd rfl nd | exact PRun.convV tabOk c3 rfl rfl nd rfl rfl | exact PRun.convV tabOk c2 rfl rfl nd rfl rfl | exact PRun.convV tabOk c1 rfl rfl nd rfl rfl | exact std0 | exact pcW (cl) rfl rfl nd rfl nds | exact pbD tabOk rfl rfl nds | exact std1)) (by exact rfl) ?_
  | refine yqQ (a := 0) (b := 2) rfl (by decide +kernel) (by decide +kernel) rfl rfl rfl (fun k h1 h2 hg => by (have hk : k = 0 ∨ k = 1 ∨ k = 2 := (by omega)); (rcases hk with rfl | rfl | rfl) <;> (first | exact PRun.remV r3 (by omega) rfl rfl nd rfl nd | exact PRun.convV tabOk c3 rfl rfl nd rfl rfl | exact PRun.convV tabOk c2 rfl rfl nd rfl rfl | exact PRun.convV tabOk c1 rfl rfl nd rfl rfl | exact std0 | exact pcW (cl) rfl rfl nd rfl nds | exact pbD tabOk rfl rfl nds | exact std1)) (by exact rfl) ?_
  | refine yqQ (a := 1) (b := 2) rfl (by decide +kernel) (by decide +kernel) rfl rfl rfl (fun k h1 h2 hg => by (have hk : k = 1 ∨ k = 2 := (by omega)); (rcases hk with rfl | rfl) <;> (first | exact PRun.remV r3 (by omega) rfl rfl nd rfl nd | exact PRun.convV tabOk c3 rfl rfl nd rfl rfl | exact PRun.convV tabOk c2 rfl rfl nd rfl rfl | exact PRun.convV tabOk c1 rfl rfl nd rfl rfl | exact std0 | exact pcW (cl) rfl rfl nd rfl nds | exact pbD tabOk rfl rfl nds | exact std1)) (by exact rfl) ?_
  | refine yqQ (a := 2) (b := 2) rfl (by decide +kernel) (by decide +kernel) rfl rfl rfl (fun k h1 h2 hg => by (have hk : k = 2 := (by omega)); (rcases hk with rfl) <;> (first | exact PRun.remV r3 (by omega) rfl rfl nd rfl nd | exact PRun.convV tabOk c3 rfl rfl nd rfl rfl | exact PRun.convV tabOk c2 rfl rfl nd rfl rfl | exact PRun.convV tabOk c1 rfl rfl nd rfl rfl | exact std0 | exact pcW (cl) rfl rfl nd rfl nds | exact pbD tabOk rfl rfl nds | exact std1)) (by exact rfl) ?_)
 refine YQ.e (v := .any) (d := none) rfl rfl rfl ?_ ?_
 · intro env' he
   exact stW tabOk rfl rfl ((rdv_congr (he 8 (by decide +kernel))).trans rfl) (by rw [rdn_congr (he 8 (by decide +kernel))]; first | exact tI | exact rfl) rfl ((rdv_congr (he 41 (by decide +kernel))).trans rfl) (by rw [rdn_congr (he 41 (by decide +kernel))]; first | exact tI | exact rfl) rfl rfl rfl rfl rfl rfl rfl ⟨rfl, rfl⟩
 repeat' (first
  | refine yqQ (a := 0) (b := 0) rfl (by decide +kernel) (by decide +kernel) rfl rfl rfl (fun k h1 h2 hg => by (have hk : k = 0 := (by omega)); (rcases hk with rfl) <;> (first | exact PRun.remV r3 (by omega) rfl rfl nd rfl nd | exact PRun.convV tabOk c3 rfl rfl nd rfl rfl | exact PRun.convV tabOk c2 rfl rfl nd rfl rfl | exact PRun.convV tabOk c1 rfl rfl nd rfl rfl | exact std0 | exact pcW (cl) rfl rfl nd rfl nds | exact pbD tabOk rfl rfl nds | exact std1)) (by exact rfl) ?_
  | refine yqQ (a := 0) (b := 1) rfl (by decide +kernel) (by decide +kernel) rfl rfl rfl (fun k h1 h2 hg => by (have hk : k = 0 ∨ k = 1 := (by omega)); (rcases hk with rfl | rfl) <;> (first | exact PRun.remV r3 (by omega) rfl rfl nd rfl nd | exact PRun.convV tabOk c3 rfl rfl nd rfl rfl | exact PRun.convV tabOk c2 rfl rfl nd rfl rfl | exact PRun.convV tabOk c1 rfl rfl nd rfl rfl | exact std0 | exact pcW (cl) rfl rfl nd rfl nds | exact pbD tabOk rfl rfl nds | exact std1)) (by exact rfl) ?_
  | refine yqQ (a := 1) (b := 1) rfl (by decide +kernel) (by decide +kernel) rfl rfl rfl (fun k h1 h2 hg => by (have hk : k = 1 := (by omega)); (rcases hk with rfl) <;> (first | exact PRun.remV r3 (by omega) rfl rfl nd rfl nd | exact PRun.convV tabOk c3 rfl rfl nd rfl rfl | exact PRun.convV tabOk c2 rfl rfl nd rfl rfl | exact PRun.convV tabOk c1 rfl rfl nd rfl rfl | exact std0 | exact pcW (cl) rfl rfl nd rfl nds | exact pbD tabOk rfl rfl nds | exact std1)) (by exact rfl) ?_
  | refine yqQ (a := 0) (b := 2) rfl (by decide +kernel) (by decide +kernel) rfl rfl rfl (fun k h1 h2 hg => by (have hk : k = 0 ∨ k = 1 ∨ k = 2 := (by omega)); (rcases hk with rfl | rfl | rfl) <;> (first | exact PRun.remV r3 (by omega) rfl rfl nd rfl nd | exact PRun.convV tabOk c3 rfl rfl nd rfl rfl | exact PRun.convV tabOk c2 rfl rfl nd rfl rfl | exact PRun.convV tabOk c1 rfl rfl nd rfl rfl | exact std0 | exact pcW (cl) rfl rfl nd rfl nds | exact pbD tabOk rfl rfl nds | exact std1)) (by exact rfl) ?_
  | refine yqQ (a := 1) (b := 2) rfl (by decide +kernel) (by decide +kernel) rfl rfl rfl (fun k h1 h2 hg => by (have hk : k = 1 ∨ k = 2 := (by omega)); (rcases hk with rfl | rfl) <;> (first | exact PRun.remV r3 (by omega) rfl rfl nd rfl nd | exact PRun.convV tabOk c3 rfl rfl nd rfl rfl | exact PRun.convV tabOk c2 rfl rfl nd rfl rfl | exact PRun.convV tabOk c1 rfl rfl nd rfl rfl | exact std0 | exact pcW (cl) rfl rfl nd rfl nds | exact pbD tabOk rfl rfl nds | exact std1)) (by exact rfl) ?_
  | refine yqQ (a := 2) (b := 2) rfl (by decide +kernel) (by decide +kernel) rfl rfl rfl (fun k h1 h2 hg => by (have hk : k = 2 := (by omega)); (rcases hk with rfl) <;> (first | exact PRun.remV r3 (by omega) rfl rfl nd rfl nd | exact PRun.convV tabOk c3 rfl rfl nd rfl rfl | exact PRun.convV tabOk c2 rfl rfl nd rfl rfl | exact PRun.convV tabOk c1 rfl rfl nd rfl rfl | exact std0 | exact pcW (cl) rfl rfl nd rfl nds | exact pbD tabOk rfl rfl nds | exact std1)) (by exact rfl) ?_)
 refine YQ.nil (hK _ _ ?_)
 clear hK K'
 have hix : ((i : Nat) : Int).toNat < ((tabsL n t).map encTab).length := by rw [lLm, lenT]; exact hi
 rcases hdo with c | c | c | c | c
 · have r5 : (d.what : Int).tmod 5 = 0 := by rw [r4, c]; rfl
   have eX : deedE (t i) d = ⟨clockE (t i).s.evs + 1, (t i).s.id, 3, ((d.cut % 1001 : Nat) : Int), noMark⟩ := if_neg (by omega)
   have hxt : (deedE (t i) d).mark.text.length ≤ 9223372036854775807 := by rw [eX]; exact nZl _
   repeat' (first | refine aoQ rfl rfl rfl (fun hg => by first | exact PRun.remV r5 (by decide) rfl rfl nd rfl nd | exact std0) (by exact rfl) ?_ | refine sqW ?_ | refine rgK (fun K' hK => ?_) | (refine aoN (hK _ _ ?_); clear hK K') | refine blK ?_)
   refine cdW rfl tI (fun hc => ?_) (fun hc => absurd hc (by decide))
   repeat' (first | refine skW ?_)
   refine cdW rfl tI (fun hc => ?_) (fun hc => absurd hc (by decide))
   repeat' (first | refine aoQ rfl rfl rfl (fun hg => by first | exact PRun.remV r5 (by decide) rfl rfl nd rfl nd | exact std0) (by exact rfl) ?_ | refine sqW ?_ | refine rgK (fun K' hK => ?_) | (refine aoN (hK _ _ ?_); clear hK K'))
   refine cdW rfl tI (fun hc => absurd hc (by decide)) (fun hc => ?_)
   have ev := event22_spec (deedE (t i) d) hxt
   rw [eX] at ev
   cases he : evOk (deedE (t i) d) with
   | false =>
     rw [eX] at he
     rw [he] at ev
     repeat' (first | refine aoQ rfl rfl rfl (fun hg => by first | exact std0 | exact pcW (ev) rfl rfl nd rfl nds) (by exact rfl) ?_ | refine sqW ?_ | refine rgK (fun K' hK => ?_) | (refine aoN (hK _ _ ?_); clear hK K') | refine skW ?_)
     refine cdW rfl tI (fun hc => ?_) (fun hc => absurd hc (by decide))
     repeat' (first | refine aoQ rfl rfl rfl (fun hg => by exact std0) (by exact rfl) ?_ | refine sqW ?_ | refine rgK (fun K' hK => ?_) | (refine aoN (hK _ _ ?_); clear hK K') | refine rtW ?_)
     refine ⟨.inr rfl, .b true, tabS n ver t, ⟨rfl, by rw [f1 (by omega) (by rw [eX]; exact he)]⟩, rfl, by simp, okTabs _ _, rfl, rfl⟩
   | true =>
     have he2 := he
     rw [eX] at he2
     rw [he2] at ev
     have w := write_spec (t i) iT (deedE (t i) d) hxt
     cases hup : (t i).up with
     | false =>
       obtain ⟨g1, g2⟩ := f2 (by omega) he hup
       generalize hWd : writeT (t i) (deedE (t i) d) = W at *
       obtain ⟨W1, W2⟩ := W
       dsimp only at g1
       subst g1
       rw [eX] at w
       change PCall _ _ _ (.tup [.agg (encTab W1), .int 6]) at w
       repeat' (first | refine aoQ rfl rfl rfl (fun hg => by first | exact std0 | exact pcW (ev) rfl rfl nd rfl nds) (by exact rfl) ?_ | refine sqW ?_ | refine rgK (fun K' hK => ?_) | (refine aoN (hK _ _ ?_); clear hK K') | refine skW ?_)
       refine cdW rfl tI (fun hc => absurd hc (by decide)) (fun hc => ?_)
       repeat' (first | refine aoQ rfl rfl rfl (fun hg => by first | exact PRun.eq (v := .b ((tabsL n t).getD ((i : Nat) : Int).toNat default).up) (PRun.loadEM (f := encTab) (xs := tabsL n t) tabOk rfl rfl nd rfl (by omega) rfl rfl) (congrArg (fun x => AV.b x.up) (eT.trans (by rfl))) | exact std0 | exact pcW (w) rfl rfl nd rfl nds | exact PRun.indexA0 tabOk rfl rfl nd rfl nd rfl (zA0 _) rfl ⟨by omega, by omega⟩ | exact PRun.fieldE tabOk rfl rfl nd rfl rfl) (by exact rfl) ?_ | refine sqW ?_ | refine rgK (fun K' hK => ?_) | (refine aoN (hK _ _ ?_); clear hK K') | refine aoE (stW tabOk rfl rfl rfl tI rfl rfl tI rfl rfl rfl rfl rfl rfl rfl ?_) | refine skW ?_)
       refine cdW rfl tI (fun hc => ?_) (fun hc => ?_)
       · repeat' (first | refine aoQ rfl rfl rfl (fun hg => by exact std0) (by exact rfl) ?_ | refine sqW ?_ | refine rgK (fun K' hK => ?_) | (refine aoN (hK _ _ ?_); clear hK K') | refine rtW ?_)
         refine ⟨.inr rfl, .b true, tabS n ver t, ⟨rfl, by rw [g2]⟩, rfl, by simp, okTabs _ _, rfl, rfl⟩
       · exfalso; rw [hup] at hc; cases hc
     | true =>
       obtain ⟨g1, g3, g2⟩ := f3 (by omega) he hup
       generalize hWd : writeT (t i) (deedE (t i) d) = W at *
       obtain ⟨W1, W2⟩ := W
       dsimp only at g1 g2 g3
       subst g1
       rw [eX] at w
       change PCall _ _ _ (.tup [.agg (encTab W1), .int 0]) at w
       repeat' (first | refine aoQ rfl rfl rfl (fun hg => by first | exact std0 | exact pcW (ev) rfl rfl nd rfl nds) (by exact rfl) ?_ | refine sqW ?_ | refine rgK (fun K' hK => ?_) | (refine aoN (hK _ _ ?_); clear hK K') | refine skW ?_)
       refine cdW rfl tI (fun hc => absurd hc (by decide)) (fun hc => ?_)
       repeat' (first | refine aoQ rfl rfl rfl (fun hg => by first | exact PRun.eq (v := .b ((tabsL n t).getD ((i : Nat) : Int).toNat default).up) (PRun.loadEM (f := encTab) (xs := tabsL n t) tabOk rfl rfl nd rfl (by omega) rfl rfl) (congrArg (fun x => AV.b x.up) (eT.trans (by rfl))) | exact std0 | exact pcW (w) rfl rfl nd rfl nds | exact PRun.indexA0 tabOk rfl rfl nd rfl nd rfl (zA0 _) rfl ⟨by omega, by omega⟩ | exact PRun.fieldE tabOk rfl rfl nd rfl rfl) (by exact rfl) ?_ | refine sqW ?_ | refine rgK (fun K' hK => ?_) | (refine aoN (hK _ _ ?_); clear hK K') | refine aoE (stW tabOk rfl rfl rfl tI rfl rfl tI rfl rfl rfl rfl rfl rfl rfl ?_) | refine skW ?_)
       refine cdW rfl tI (fun hc => ?_) (fun hc => ?_)
       · exfalso; rw [hup] at hc; cases hc
       have tv := tvalid_spec W1 (tabIn_of g3)
       rw [g3] at tv
       repeat' (first | refine aoQ rfl rfl rfl (fun hg => by first | exact std0 | exact PRun.indexA0 tabOk rfl rfl nd rfl nd rfl (zA0 _) rfl ⟨by omega, by omega⟩ | exact pcW (tv) rfl rfl nd rfl nds) (by exact rfl) ?_ | refine sqW ?_ | refine rgK (fun K' hK => ?_) | (refine aoN (hK _ _ ?_); clear hK K') | refine aoE (EStep.storeE (l := 0) tabOk rfl rfl rfl tI rfl hix rfl tI rfl rfl rfl rfl rfl rfl ?_) | refine skW ?_ | refine rtW ?_)
       refine ⟨.inr rfl, .b true, tabS n ver (set1 t i W1), ⟨rfl, by rw [g2]⟩, (by show [AObj.arr 10 ver (((tabsL n t).map encTab).set ((i : Nat) : Int).toNat (encTab W1))] = [AObj.arr 10 ver ((tabsL n (set1 t i W1)).map encTab)]; rw [← tabs_set hi, zCg]; rfl), by simp, okTabs _ _, rfl, rfl⟩
 · have r5 : (d.what : Int).tmod 5 = 1 := by rw [r4, c]; rfl
   have eX : deedE (t i) d = ⟨clockE (t i).s.evs + 1, (t i).s.id, 1, 0, d.mark⟩ := if_pos c
   have hxt : (deedE (t i) d).mark.text.length ≤ 9223372036854775807 := by rw [eX]; exact hd.t
   repeat' (first | refine aoQ rfl rfl rfl (fun hg => by first | exact PRun.remV r5 (by decide) rfl rfl nd rfl nd | exact std0) (by exact rfl) ?_ | refine sqW ?_ | refine rgK (fun K' hK => ?_) | (refine aoN (hK _ _ ?_); clear hK K') | refine blK ?_)
   refine cdW rfl tI (fun hc => absurd hc (by decide)) (fun hc => ?_)
   repeat' (first | refine aoQ rfl rfl rfl (fun hg => by exact std0) (by exact rfl) ?_ | refine rgK (fun K' hK => ?_) | (refine aoN (hK _ _ ?_); clear hK K'))
   refine cdW rfl tI (fun hc => ?_) (fun hc => absurd hc (by decide))
   repeat' (first | refine aoQ rfl rfl rfl (fun hg => by first | exact PRun.remV r5 (by decide) rfl rfl nd rfl nd | exact std0) (by exact rfl) ?_ | refine sqW ?_ | refine rgK (fun K' hK => ?_) | (refine aoN (hK _ _ ?_); clear hK K'))
   refine cdW rfl tI (fun hc => ?_) (fun hc => absurd hc (by decide))
   refine AWP.drawY (fun j => match j with | 0 => [.arr 10 ver ((tabsL n t).map encTab), .var (encDeed d), .var (encTab (t i)), .var (encE ⟨clockE (t i).s.evs + 1, (t i).s.id, 3, ((d.cut % 1001 : Nat) : Int), noMark⟩)] | 1 => [.arr 10 ver ((tabsL n t).map encTab), .var (encDeed d), .var (encTab (t i)), .var (encE ⟨clockE (t i).s.evs + 1, (t i).s.id, 1, ((d.cut % 1001 : Nat) : Int), noMark⟩)] | 2 => [.arr 10 ver ((tabsL n t).map encTab), .var (encDeed d), .var (encTab (t i)), .var (encE ⟨clockE (t i).s.evs + 1, (t i).s.id, 1, 0, noMark⟩)] | _ => [.arr 10 ver ((tabsL n t).map encTab), .var (encDeed d), .var (encTab (t i)), .var (encE ⟨clockE (t i).s.evs + 1, (t i).s.id, 1, 0, d.mark⟩)]) rfl (by kernel_rfl) (by decide +kernel) rfl (by decide +kernel) (fun K' hK => ?_)
   repeat' (first
    | refine yqQ (a := 0) (b := 0) rfl (by decide +kernel) (by decide +kernel) rfl rfl rfl (fun k h1 h2 hg => by (have hk : k = 0 := (by omega)); (rcases hk with rfl) <;> (first | exact std0 | exact std1)) (by exact rfl) ?_
    | refine yqQ (a := 0) (b := 1) rfl (by decide +kernel) (by decide +kernel) rfl rfl rfl (fun k h1 h2 hg => by (have hk : k = 0 ∨ k = 1 := (by omega)); (rcases hk with rfl | rfl) <;> (first | exact std0 | exact std1)) (by exact rfl) ?_
    | refine yqQ (a := 1) (b := 1) rfl (by decide +kernel) (by decide +kernel) rfl rfl rfl (fun k h1 h2 hg => by (have hk : k = 1 := (by omega)); (rcases hk with rfl) <;> (first | exact std0 | exact std1)) (by exact rfl) ?_
    | refine yqQ (a := 0) (b := 2) rfl (by decide +kernel) (by decide +kernel) rfl rfl rfl (fun k h1 h2 hg => by (have hk : k = 0 ∨ k = 1 ∨ k = 2 := (by omega)); (rcases hk with rfl | rfl | rfl) <;> (first | exact std0 | exact std1)) (by exact rfl) ?_
    | refine yqQ (a := 1) (b := 2) rfl (by decide +kernel) (by decide +kernel) rfl rfl rfl (fun k h1 h2 hg => by (have hk : k = 1 ∨ k = 2 := (by omega)); (rcases hk with rfl | rfl) <;> (first | exact std0 | exact std1)) (by exact rfl) ?_
    | refine yqQ (a := 2) (b := 2) rfl (by decide +kernel) (by decide +kernel) rfl rfl rfl (fun k h1 h2 hg => by (have hk : k = 2 := (by omega)); (rcases hk with rfl) <;> (first | exact std0 | exact std1)) (by exact rfl) ?_
    | refine yqQ (a := 0) (b := 3) rfl (by decide +kernel) (by decide +kernel) rfl rfl rfl (fun k h1 h2 hg => by (have hk : k = 0 ∨ k = 1 ∨ k = 2 ∨ k = 3 := (by omega)); (rcases hk with rfl | rfl | rfl | rfl) <;> (first | exact std0 | exact std1)) (by exact rfl) ?_
    | refine yqQ (a := 1) (b := 3) rfl (by decide +kernel) (by decide +kernel) rfl rfl rfl (fun k h1 h2 hg => by (have hk : k = 1 ∨ k = 2 ∨ k = 3 := (by omega)); (rcases hk with rfl | rfl | rfl) <;> (first | exact std0 | exact std1)) (by exact rfl) ?_
    | refine yqQ (a := 2) (b := 3) rfl (by decide +kernel) (by decide +kernel) rfl rfl rfl (fun k h1 h2 hg => by (have hk : k = 2 ∨ k = 3 := (by omega)); (rcases hk with rfl | rfl) <;> (first | exact std0 | exact std1)) (by exact rfl) ?_
    | refine yqQ (a := 3) (b := 3) rfl (by decide +kernel) (by decide +kernel) rfl rfl rfl (fun k h1 h2 hg => by (have hk : k = 3 := (by omega)); (rcases hk with rfl) <;> (first | exact std0 | exact std1)) (by exact rfl) ?_)
   refine YQ.e (v := .any) (d := none) rfl rfl rfl ?_ ?_
   · intro env' he
     exact stW tabOk rfl rfl ((rdv_congr (he 54 (by decide +kernel))).trans rfl) (by rw [rdn_congr (he 54 (by decide +kernel))]; first | exact tI | exact rfl) rfl rfl tI rfl rfl rfl rfl rfl rfl rfl ⟨rfl, rfl⟩
   repeat' (first
    | refine yqQ (a := 0) (b := 0) rfl (by decide +kernel) (by decide +kernel) rfl rfl rfl (fun k h1 h2 hg => by (have hk : k = 0 := (by omega)); (rcases hk with rfl) <;> (first | exact std0 | exact std1)) (by exact rfl) ?_
    | refine yqQ (a := 0) (b := 1) rfl (by decide +kernel) (by decide +kernel) rfl rfl rfl (fun k h1 h2 hg => by (have hk : k = 0 ∨ k = 1 := (by omega)); (rcases hk with rfl | rfl) <;> (first | exact std0 | exact std1)) (by exact rfl) ?_
    | refine yqQ (a := 1) (b := 1) rfl (by decide +kernel) (by decide +kernel) rfl rfl rfl (fun k h1 h2 hg => by (have hk : k = 1 := (by omega)); (rcases hk with rfl) <;> (first | exact std0 | exact std1)) (by exact rfl) ?_
    | refine yqQ (a := 0) (b := 2) rfl (by decide +kernel) (by decide +kernel) rfl rfl rfl (fun k h1 h2 hg => by (have hk : k = 0 ∨ k = 1 ∨ k = 2 := (by omega)); (rcases hk with rfl | rfl | rfl) <;> (first | exact std0 | exact std1)) (by exact rfl) ?_
    | refine yqQ (a := 1) (b := 2) rfl (by decide +kernel) (by decide +kernel) rfl rfl rfl (fun k h1 h2 hg => by (have hk : k = 1 ∨ k = 2 := (by omega)); (rcases hk with rfl | rfl) <;> (first | exact std0 | exact std1)) (by exact rfl) ?_
    | refine yqQ (a := 2) (b := 2) rfl (by decide +kernel) (by decide +kernel) rfl rfl rfl (fun k h1 h2 hg => by (have hk : k = 2 := (by omega)); (rcases hk with rfl) <;> (first | exact std0 | exact std1)) (by exact rfl) ?_
    | refine yqQ (a := 0) (b := 3) rfl (by decide +kernel) (by decide +kernel) rfl rfl rfl (fun k h1 h2 hg => by (have hk : k = 0 ∨ k = 1 ∨ k = 2 ∨ k = 3 := (by omega)); (rcases hk with rfl | rfl | rfl | rfl) <;> (first | exact std0 | exact std1)) (by exact rfl) ?_
    | refine yqQ (a := 1) (b := 3) rfl (by decide +kernel) (by decide +kernel) rfl rfl rfl (fun k h1 h2 hg => by (have hk : k = 1 ∨ k = 2 ∨ k = 3 := (by omega)); (rcases hk with rfl | rfl | rfl) <;> (first | exact std0 | exact std1)) (by exact rfl) ?_
    | refine yqQ (a := 2) (b := 3) rfl (by decide +kernel) (by decide +kernel) rfl rfl rfl (fun k h1 h2 hg => by (have hk : k = 2 ∨ k = 3 := (by omega)); (rcases hk with rfl | rfl) <;> (first | exact std0 | exact std1)) (by exact rfl) ?_
    | refine yqQ (a := 3) (b := 3) rfl (by decide +kernel) (by decide +kernel) rfl rfl rfl (fun k h1 h2 hg => by (have hk : k = 3 := (by omega)); (rcases hk with rfl) <;> (first | exact std0 | exact std1)) (by exact rfl) ?_)
   refine YQ.e (v := .any) (d := none) rfl rfl rfl ?_ ?_
   · intro env' he
     exact stW tabOk rfl rfl ((rdv_congr (he 55 (by decide +kernel))).trans rfl) (by rw [rdn_congr (he 55 (by decide +kernel))]; first | exact tI | exact rfl) rfl rfl tI rfl rfl rfl rfl rfl rfl rfl ⟨rfl, rfl⟩
   repeat' (first
    | refine yqQ (a := 0) (b := 0) rfl (by decide +kernel) (by decide +kernel) rfl rfl rfl (fun k h1 h2 hg => by (have hk : k = 0 := (by omega)); (rcases hk with rfl) <;> (first | exact std0 | exact std1)) (by exact rfl) ?_
    | refine yqQ (a := 0) (b := 1) rfl (by decide +kernel) (by decide +kernel) rfl rfl rfl (fun k h1 h2 hg => by (have hk : k = 0 ∨ k = 1 := (by omega)); (rcases hk with rfl | rfl) <;> (first | exact std0 | exact std1)) (by exact rfl) ?_
    | refine yqQ (a := 1) (b := 1) rfl (by decide +kernel) (by decide +kernel) rfl rfl rfl (fun k h1 h2 hg => by (have hk : k = 1 := (by omega)); (rcases hk with rfl) <;> (first | exact std0 | exact std1)) (by exact rfl) ?_
    | refine yqQ (a := 0) (b := 2) rfl (by decide +kernel) (by decide +kernel) rfl rfl rfl (fun k h1 h2 hg => by (have hk : k = 0 ∨ k = 1 ∨ k = 2 := (by omega)); (rcases hk with rfl | rfl | rfl) <;> (first | exact std0 | exact std1)) (by exact rfl) ?_
    | refine yqQ (a := 1) (b := 2) rfl (by decide +kernel) (by decide +kernel) rfl rfl rfl (fun k h1 h2 hg => by (have hk : k = 1 ∨ k = 2 := (by omega)); (rcases hk with rfl | rfl) <;> (first | exact std0 | exact std1)) (by exact rfl) ?_
    | refine yqQ (a := 2) (b := 2) rfl (by decide +kernel) (by decide +kernel) rfl rfl rfl (fun k h1 h2 hg => by (have hk : k = 2 := (by omega)); (rcases hk with rfl) <;> (first | exact std0 | exact std1)) (by exact rfl) ?_
    | refine yqQ (a := 0) (b := 3) rfl (by decide +kernel) (by decide +kernel) rfl rfl rfl (fun k h1 h2 hg => by (have hk : k = 0 ∨ k = 1 ∨ k = 2 ∨ k = 3 := (by omega)); (rcases hk with rfl | rfl | rfl | rfl) <;> (first | exact std0 | exact std1)) (by exact rfl) ?_
    | refine yqQ (a := 1) (b := 3) rfl (by decide +kernel) (by decide +kernel) rfl rfl rfl (fun k h1 h2 hg => by (have hk : k = 1 ∨ k = 2 ∨ k = 3 := (by omega)); (rcases hk with rfl | rfl | rfl) <;> (first | exact std0 | exact std1)) (by exact rfl) ?_
    | refine yqQ (a := 2) (b := 3) rfl (by decide +kernel) (by decide +kernel) rfl rfl rfl (fun k h1 h2 hg => by (have hk : k = 2 ∨ k = 3 := (by omega)); (rcases hk with rfl | rfl) <;> (first | exact std0 | exact std1)) (by exact rfl) ?_
    | refine yqQ (a := 3) (b := 3) rfl (by decide +kernel) (by decide +kernel) rfl rfl rfl (fun k h1 h2 hg => by (have hk : k = 3 := (by omega)); (rcases hk with rfl) <;> (first | exact std0 | exact std1)) (by exact rfl) ?_)
   refine YQ.e (v := .any) (d := none) rfl rfl rfl ?_ ?_
   · intro env' he
     exact stW tabOk rfl rfl ((rdv_congr (he 56 (by decide +kernel))).trans rfl) (by rw [rdn_congr (he 56 (by decide +kernel))]; first | exact tI | exact rfl) rfl ((rdv_congr (he 53 (by decide +kernel))).trans rfl) (by rw [rdn_congr (he 53 (by decide +kernel))]; first | exact tI | exact rfl) rfl rfl rfl rfl rfl rfl rfl ⟨rfl, rfl⟩
   repeat' (first
    | refine yqQ (a := 0) (b := 0) rfl (by decide +kernel) (by decide +kernel) rfl rfl rfl (fun k h1 h2 hg => by (have hk : k = 0 := (by omega)); (rcases hk with rfl) <;> (first | exact std0 | exact std1)) (by exact rfl) ?_
    | refine yqQ (a := 0) (b := 1) rfl (by decide +kernel) (by decide +kernel) rfl rfl rfl (fun k h1 h2 hg => by (have hk : k = 0 ∨ k = 1 := (by omega)); (rcases hk with rfl | rfl) <;> (first | exact std0 | exact std1)) (by exact rfl) ?_
    | refine yqQ (a := 1) (b := 1) rfl (by decide +kernel) (by decide +kernel) rfl rfl rfl (fun k h1 h2 hg => by (have hk : k = 1 := (by omega)); (rcases hk with rfl) <;> (first | exact std0 | exact std1)) (by exact rfl) ?_
    | refine yqQ (a := 0) (b := 2) rfl (by decide +kernel) (by decide +kernel) rfl rfl rfl (fun k h1 h2 hg => by (have hk : k = 0 ∨ k = 1 ∨ k = 2 := (by omega)); (rcases hk with rfl | rfl | rfl) <;> (first | exact std0 | exact std1)) (by exact rfl) ?_
    | refine yqQ (a := 1) (b := 2) rfl (by decide +kernel) (by decide +kernel) rfl rfl rfl (fun k h1 h2 hg => by (have hk : k = 1 ∨ k = 2 := (by omega)); (rcases hk with rfl | rfl) <;> (first | exact std0 | exact std1)) (by exact rfl) ?_
    | refine yqQ (a := 2) (b := 2) rfl (by decide +kernel) (by decide +kernel) rfl rfl rfl (fun k h1 h2 hg => by (have hk : k = 2 := (by omega)); (rcases hk with rfl) <;> (first | exact std0 | exact std1)) (by exact rfl) ?_
    | refine yqQ (a := 0) (b := 3) rfl (by decide +kernel) (by decide +kernel) rfl rfl rfl (fun k h1 h2 hg => by (have hk : k = 0 ∨ k = 1 ∨ k = 2 ∨ k = 3 := (by omega)); (rcases hk with rfl | rfl | rfl | rfl) <;> (first | exact std0 | exact std1)) (by exact rfl) ?_
    | refine yqQ (a := 1) (b := 3) rfl (by decide +kernel) (by decide +kernel) rfl rfl rfl (fun k h1 h2 hg => by (have hk : k = 1 ∨ k = 2 ∨ k = 3 := (by omega)); (rcases hk with rfl | rfl | rfl) <;> (first | exact std0 | exact std1)) (by exact rfl) ?_
    | refine yqQ (a := 2) (b := 3) rfl (by decide +kernel) (by decide +kernel) rfl rfl rfl (fun k h1 h2 hg => by (have hk : k = 2 ∨ k = 3 := (by omega)); (rcases hk with rfl | rfl) <;> (first | exact std0 | exact std1)) (by exact rfl) ?_
    | refine yqQ (a := 3) (b := 3) rfl (by decide +kernel) (by decide +kernel) rfl rfl rfl (fun k h1 h2 hg => by (have hk : k = 3 := (by omega)); (rcases hk with rfl) <;> (first | exact std0 | exact std1)) (by exact rfl) ?_)
   refine YQ.nil (hK _ _ ?_)
   clear hK K'
   have ev := event22_spec (deedE (t i) d) hxt
   rw [eX] at ev
   cases he : evOk (deedE (t i) d) with
   | false =>
     rw [eX] at he
     rw [he] at ev
     repeat' (first | refine aoQ rfl rfl rfl (fun hg => by first | exact std0 | exact pcW (ev) rfl rfl nd rfl nds) (by exact rfl) ?_ | refine sqW ?_ | refine rgK (fun K' hK => ?_) | (refine aoN (hK _ _ ?_); clear hK K'))
     refine cdW rfl tI (fun hc => ?_) (fun hc => absurd hc (by decide))
     repeat' (first | refine aoQ rfl rfl rfl (fun hg => by exact std0) (by exact rfl) ?_ | refine sqW ?_ | refine rgK (fun K' hK => ?_) | (refine aoN (hK _ _ ?_); clear hK K') | refine rtW ?_)
     refine ⟨.inr rfl, .b true, tabS n ver t, ⟨rfl, by rw [f1 (by omega) (by rw [eX]; exact he)]⟩, rfl, by simp, okTabs _ _, rfl, rfl⟩
   | true =>
     have he2 := he
     rw [eX] at he2
     rw [he2] at ev
     have w := write_spec (t i) iT (deedE (t i) d) hxt
     cases hup : (t i).up with
     | false =>
       obtain ⟨g1, g2⟩ := f2 (by omega) he hup
       generalize hWd : writeT (t i) (deedE (t i) d) = W at *
       obtain ⟨W1, W2⟩ := W
       dsimp only at g1
       subst g1
       rw [eX] at w
       change PCall _ _ _ (.tup [.agg (encTab W1), .int 6]) at w
       repeat' (first | refine aoQ rfl rfl rfl (fun hg => by first | exact std0 | exact pcW (ev) rfl rfl nd rfl nds) (by exact rfl) ?_ | refine sqW ?_ | refine rgK (fun K' hK => ?_) | (refine aoN (hK _ _ ?_); clear hK K'))
       refine cdW rfl tI (fun hc => absurd hc (by decide)) (fun hc => ?_)
       repeat' (first | refine aoQ rfl rfl rfl (fun hg => by first | exact PRun.eq (v := .b ((tabsL n t).getD ((i : Nat) : Int).toNat default).up) (PRun.loadEM (f := encTab) (xs := tabsL n t) tabOk rfl rfl nd rfl (by omega) rfl rfl) (congrArg (fun x => AV.b x.up) (eT.trans (by rfl))) | exact std0 | exact pcW (w) rfl rfl nd rfl nds | exact PRun.indexA0 tabOk rfl rfl nd rfl nd rfl (zA0 _) rfl ⟨by omega, by omega⟩ | exact PRun.fieldE tabOk rfl rfl nd rfl rfl) (by exact rfl) ?_ | refine sqW ?_ | refine rgK (fun K' hK => ?_) | (refine aoN (hK _ _ ?_); clear hK K') | refine aoE (stW tabOk rfl rfl rfl tI rfl rfl tI rfl rfl rfl rfl rfl rfl rfl ?_) | refine skW ?_)
       refine cdW rfl tI (fun hc => ?_) (fun hc => ?_)
       · repeat' (first | refine aoQ rfl rfl rfl (fun hg => by exact std0) (by exact rfl) ?_ | refine sqW ?_ | refine rgK (fun K' hK => ?_) | (refine aoN (hK _ _ ?_); clear hK K') | refine rtW ?_)
         refine ⟨.inr rfl, .b true, tabS n ver t, ⟨rfl, by rw [g2]⟩, rfl, by simp, okTabs _ _, rfl, rfl⟩
       · exfalso; rw [hup] at hc; cases hc
     | true =>
       obtain ⟨g1, g3, g2⟩ := f3 (by omega) he hup
       generalize hWd : writeT (t i) (deedE (t i) d) = W at *
       obtain ⟨W1, W2⟩ := W
       dsimp only at g1 g2 g3
       subst g1
       rw [eX] at w
       change PCall _ _ _ (.tup [.agg (encTab W1), .int 0]) at w
       repeat' (first | refine aoQ rfl rfl rfl (fun hg => by first | exact std0 | exact pcW (ev) rfl rfl nd rfl nds) (by exact rfl) ?_ | refine sqW ?_ | refine rgK (fun K' hK => ?_) | (refine aoN (hK _ _ ?_); clear hK K'))
       refine cdW rfl tI (fun hc => absurd hc (by decide)) (fun hc => ?_)
       repeat' (first | refine aoQ rfl rfl rfl (fun hg => by first | exact PRun.eq (v := .b ((tabsL n t).getD ((i : Nat) : Int).toNat default).up) (PRun.loadEM (f := encTab) (xs := tabsL n t) tabOk rfl rfl nd rfl (by omega) rfl rfl) (congrArg (fun x => AV.b x.up) (eT.trans (by rfl))) | exact std0 | exact pcW (w) rfl rfl nd rfl nds | exact PRun.indexA0 tabOk rfl rfl nd rfl nd rfl (zA0 _) rfl ⟨by omega, by omega⟩ | exact PRun.fieldE tabOk rfl rfl nd rfl rfl) (by exact rfl) ?_ | refine sqW ?_ | refine rgK (fun K' hK => ?_) | (refine aoN (hK _ _ ?_); clear hK K') | refine aoE (stW tabOk rfl rfl rfl tI rfl rfl tI rfl rfl rfl rfl rfl rfl rfl ?_) | refine skW ?_)
       refine cdW rfl tI (fun hc => ?_) (fun hc => ?_)
       · exfalso; rw [hup] at hc; cases hc
       have tv := tvalid_spec W1 (tabIn_of g3)
       rw [g3] at tv
       repeat' (first | refine aoQ rfl rfl rfl (fun hg => by first | exact std0 | exact PRun.indexA0 tabOk rfl rfl nd rfl nd rfl (zA0 _) rfl ⟨by omega, by omega⟩ | exact pcW (tv) rfl rfl nd rfl nds) (by exact rfl) ?_ | refine sqW ?_ | refine rgK (fun K' hK => ?_) | (refine aoN (hK _ _ ?_); clear hK K') | refine aoE (EStep.storeE (l := 0) tabOk rfl rfl rfl tI rfl hix rfl tI rfl rfl rfl rfl rfl rfl ?_) | refine skW ?_ | refine rtW ?_)
       refine ⟨.inr rfl, .b true, tabS n ver (set1 t i W1), ⟨rfl, by rw [g2]⟩, (by show [AObj.arr 10 ver (((tabsL n t).map encTab).set ((i : Nat) : Int).toNat (encTab W1))] = [AObj.arr 10 ver ((tabsL n (set1 t i W1)).map encTab)]; rw [← tabs_set hi, zCg]; rfl), by simp, okTabs _ _, rfl, rfl⟩
 · have r5 : (d.what : Int).tmod 5 = 2 := by rw [r4, c]; rfl
   repeat' (first | refine aoQ rfl rfl rfl (fun hg => by first | exact PRun.remV r5 (by decide) rfl rfl nd rfl nd | exact std0) (by exact rfl) ?_ | refine sqW ?_ | refine rgK (fun K' hK => ?_) | (refine aoN (hK _ _ ?_); clear hK K') | refine blK ?_)
   refine cdW rfl tI (fun hc => absurd hc (by decide)) (fun hc => ?_)
   repeat' (first | refine aoQ rfl rfl rfl (fun hg => by exact std0) (by exact rfl) ?_ | refine rgK (fun K' hK => ?_) | (refine aoN (hK _ _ ?_); clear hK K'))
   refine cdW rfl tI (fun hc => absurd hc (by decide)) (fun hc => ?_)
   repeat' (first | refine aoQ rfl rfl rfl (fun hg => by exact std0) (by exact rfl) ?_ | refine sqW ?_ | refine rgK (fun K' hK => ?_) | (refine aoN (hK _ _ ?_); clear hK K'))
   refine cdW rfl tI (fun hc => ?_) (fun hc => absurd hc (by decide))
   have x := exch_spec (t i) (t k) iT (tabIn_of vU)
   generalize exchT (t i) (t k) = X at *
   have hkx : ((k : Nat) : Int).toNat < (((tabsL n t).map encTab).set i (encTab X.1)).length := by rw [List.length_set, lLm, lenT]; exact hk
   repeat' (first | refine sqW ?_)
   refine AWP.newArr 10 (AWP.newArr 10 ?_)
   refine AWP.drawV 2 (clsT [10, 11]) (fun J => cells2 [.arr 10 ver ((tabsL n t).map encTab), .var (encDeed d), .var (encTab (t i)), .var (encE ⟨clockE (t i).s.evs + 1, (t i).s.id, 3, ((d.cut % 1001 : Nat) : Int), noMark⟩)] X.1 X.2.1 (J 1) (J 2)) rfl (by kernel_rfl) (by decide +kernel) rfl (by decide +kernel) (fun K' hK => ?_)
   repeat' (first
    | refine VQ.q rfl (by decide +kernel) rfl rfl (fun J' hg => by first | exact PRun.eq (v := .agg (encTab ((tabsL n t).getD ((k : Nat) : Int).toNat default))) (PRun.loadEM (f := encTab) (xs := tabsL n t) tabOk rfl rfl nd rfl (by omega) rfl rfl) (congrArg (fun x => AV.agg (encTab x)) eU) | exact PRun.eq (v := .agg (encTab ((tabsL n t).getD ((i : Nat) : Int).toNat default))) (PRun.loadEM (f := encTab) (xs := tabsL n t) tabOk rfl rfl nd rfl (by omega) rfl rfl) (congrArg (fun x => AV.agg (encTab x)) eT) | exact std0 | exact PRun.indexA0 tabOk rfl rfl nd rfl nd rfl (zA0 _) rfl ⟨by omega, by omega⟩ | exact pcW (x) rfl rfl nd rfl nds | exact std1) (by exact rfl) ?_)
   refine VQ.e 1 0 (v := .eptr 4 10 0 0 1) (d := some 10) rfl (by decide +kernel) rfl ?_ ?_
   · intro env' he J' hJ
     show EStep _ _ _ _ (fun e s => _ ∧ s = cells2 _ _ _ (J' 1 + 1) (J' 2)) env' (cells2 _ _ _ (J' 1) (J' 2))
     rw [hJ]
     exact EStep.allocArr (l := 4) (sz := 10) tabOk rfl rfl rfl rfl rfl rfl rfl rfl ⟨rfl, rfl⟩
   refine VQ.e 2 0 (v := .eptr 5 10 0 0 1) (d := some 11) rfl (by decide +kernel) rfl ?_ ?_
   · intro env' he J' hJ
     show EStep _ _ _ _ (fun e s => _ ∧ s = cells2 _ _ _ (J' 1) (J' 2 + 1)) env' (cells2 _ _ _ (J' 1) (J' 2))
     rw [hJ]
     exact EStep.allocArr (l := 5) (sz := 10) tabOk rfl rfl rfl rfl rfl rfl rfl rfl ⟨rfl, rfl⟩
   refine VQ.e 1 1 (v := .any) (d := none) rfl (by decide +kernel) rfl ?_ ?_
   · intro env' he J' hJ
     show EStep _ _ _ _ (fun e s => _ ∧ s = cells2 _ _ _ (J' 1 + 1) (J' 2)) env' (cells2 _ _ _ (J' 1) (J' 2))
     rw [hJ]
     exact EStep.storeE (l := 4) tabOk rfl rfl ((rdv_congr (he 10 (by decide +kernel))).trans rfl) (by rw [rdn_congr (he 10 (by decide +kernel))]; first | exact tI | exact rfl) rfl (zA0 _) ((rdv_congr (he 86 (by decide +kernel))).trans rfl) (by rw [rdn_congr (he 86 (by decide +kernel))]; first | exact tI | exact rfl) rfl rfl rfl rfl rfl rfl ⟨rfl, rfl⟩
   refine VQ.e 2 1 (v := .any) (d := none) rfl (by decide +kernel) rfl ?_ ?_
   · intro env' he J' hJ
     show EStep _ _ _ _ (fun e s => _ ∧ s = cells2 _ _ _ (J' 1) (J' 2 + 1)) env' (cells2 _ _ _ (J' 1) (J' 2))
     rw [hJ]
     exact EStep.storeE (l := 5) tabOk rfl rfl ((rdv_congr (he 11 (by decide +kernel))).trans rfl) (by rw [rdn_congr (he 11 (by decide +kernel))]; first | exact tI | exact rfl) rfl (zA0 _) ((rdv_congr (he 87 (by decide +kernel))).trans rfl) (by rw [rdn_congr (he 87 (by decide +kernel))]; first | exact tI | exact rfl) rfl rfl rfl rfl rfl rfl ⟨rfl, rfl⟩
   repeat' (first
    | refine VQ.q rfl (by decide +kernel) rfl rfl (fun J' hg => by first | exact std0 | exact std1) (by exact rfl) ?_)
   refine VQ.nil (hK _ _ ?_)
   clear hK K'
   show AWP _ _ _ _ _ (cells2 [.arr 10 ver ((tabsL n t).map encTab), .var (encDeed d), .var (encTab (t i)), .var (encE ⟨clockE (t i).s.evs + 1, (t i).s.id, 3, ((d.cut % 1001 : Nat) : Int), noMark⟩)] X.1 X.2.1 2 2)
   by_cases hik : i = k
   · obtain ⟨g1, g2⟩ := f4 c hik
     repeat' (first | refine aoQ rfl rfl rfl (fun hg => by exact std0) (by exact rfl) ?_ | refine sqW ?_ | refine rgK (fun K' hK => ?_) | (refine aoN (hK _ _ ?_); clear hK K'))
     refine cdW rfl tI (fun hc => ?_) (fun hc => ?_)
     · repeat' (first | refine aoQ rfl rfl rfl (fun hg => by exact std0) (by exact rfl) ?_ | refine sqW ?_ | refine rgK (fun K' hK => ?_) | (refine aoN (hK _ _ ?_); clear hK K') | refine rtW ?_)
       refine ⟨.inr rfl, .b true, tabS n ver t, ⟨rfl, by rw [g2]⟩, rfl, by simp, okTabs _ _, rfl, (by show some _ = some _; rw [g1]; rfl)⟩
     · exfalso; rw [hik] at hc; simp at hc
   · repeat' (first | refine aoQ rfl rfl rfl (fun hg => by exact std0) (by exact rfl) ?_ | refine sqW ?_ | refine rgK (fun K' hK => ?_) | (refine aoN (hK _ _ ?_); clear hK K'))
     refine cdW rfl tI (fun hc => ?_) (fun hc => ?_)
     · exfalso
       have hc2 : (((i : Nat) : Int) == ((k : Nat) : Int)) = true := hc
       rw [beq_iff_eq] at hc2; omega
     repeat' (first | refine aoQ rfl rfl rfl (fun hg => by first | exact PRun.eq (v := .b ((tabsL n t).getD ((k : Nat) : Int).toNat default).up) (PRun.loadEM (f := encTab) (xs := tabsL n t) tabOk rfl rfl nd rfl (by omega) rfl rfl) (congrArg (fun x => AV.b x.up) eU) | exact PRun.eq (v := .b ((tabsL n t).getD ((i : Nat) : Int).toNat default).up) (PRun.loadEM (f := encTab) (xs := tabsL n t) tabOk rfl rfl nd rfl (by omega) rfl rfl) (congrArg (fun x => AV.b x.up) eT) | exact std0 | exact PRun.indexA0 tabOk rfl rfl nd rfl nd rfl (zA0 _) rfl ⟨by omega, by omega⟩ | exact PRun.fieldE tabOk rfl rfl nd rfl rfl) (by exact rfl) ?_ | refine sqW ?_ | refine rgK (fun K' hK => ?_) | (refine aoN (hK _ _ ?_); clear hK K') | refine skW ?_)
     by_cases hup : (t i).up = true ∧ (t k).up = true
     · obtain ⟨g1, g2⟩ := f6 c hik hup
       have hu1 : (!(t i).up || !(t k).up) = false := by rw [hup.1, hup.2]; rfl
       refine cdW rfl tI (fun hc => ?_) (fun hc => ?_)
       · exfalso; exact absurd (hu1.symm.trans hc) (by decide)
       repeat' (first | refine aoQ rfl rfl rfl (fun hg => by exact std0) (by exact rfl) ?_ | refine sqW ?_ | refine rgK (fun K' hK => ?_) | (refine aoN (hK _ _ ?_); clear hK K') | refine skW ?_)
       refine cdW rfl tI (fun hc => ?_) (fun hc => ?_)
       · exfalso; have hc2 : (X.2.2 != 0) = true := hc; rw [g1] at hc2; exact absurd hc2 (by decide)
       repeat' (first | refine sqW ?_ | refine skW ?_)
       refine AWP.drawY (fun j => match j with | 0 => [.arr 10 ver ((tabsL n t).map encTab), .var (encDeed d), .var (encTab (t i)), .var (encE ⟨clockE (t i).s.evs + 1, (t i).s.id, 3, ((d.cut % 1001 : Nat) : Int), noMark⟩), .arr 10 1 [encTab X.1], .arr 10 1 [encTab X.2.1]] | 1 => [.arr 10 ver (((tabsL n t).map encTab).set i (encTab X.1)), .var (encDeed d), .var (encTab (t i)), .var (encE ⟨clockE (t i).s.evs + 1, (t i).s.id, 3, ((d.cut % 1001 : Nat) : Int), noMark⟩), .arr 10 1 [encTab X.1], .arr 10 1 [encTab X.2.1]] | _ => [.arr 10 ver ((((tabsL n t).map encTab).set i (encTab X.1)).set k (encTab X.2.1)), .var (encDeed d), .var (encTab (t i)), .var (encE ⟨clockE (t i).s.evs + 1, (t i).s.id, 3, ((d.cut % 1001 : Nat) : Int), noMark⟩), .arr 10 1 [encTab X.1], .arr 10 1 [encTab X.2.1]]) rfl (by kernel_rfl) (by decide +kernel) rfl (by decide +kernel) (fun K' hK => ?_)
       repeat' (first
        | refine yqQ (a := 0) (b := 0) rfl (by decide +kernel) (by decide +kernel) rfl rfl rfl (fun k h1 h2 hg => by (have hk : k = 0 := (by omega)); (rcases hk with rfl) <;> (first | exact std0 | exact PRun.indexA0 tabOk rfl rfl nd rfl nd rfl (zA0 _) rfl ⟨by omega, by omega⟩ | exact PRun.loadE tabOk rfl rfl nd rfl (zA0 _) rfl rfl rfl | exact std1)) (by exact rfl) ?_
        | refine yqQ (a := 0) (b := 1) rfl (by decide +kernel) (by decide +kernel) rfl rfl rfl (fun k h1 h2 hg => by (have hk : k = 0 ∨ k = 1 := (by omega)); (rcases hk with rfl | rfl) <;> (first | exact std0 | exact PRun.indexA0 tabOk rfl rfl nd rfl nd rfl (zA0 _) rfl ⟨by omega, by omega⟩ | exact PRun.loadE tabOk rfl rfl nd rfl (zA0 _) rfl rfl rfl | exact std1)) (by exact rfl) ?_
        | refine yqQ (a := 1) (b := 1) rfl (by decide +kernel) (by decide +kernel) rfl rfl rfl (fun k h1 h2 hg => by (have hk : k = 1 := (by omega)); (rcases hk with rfl) <;> (first | exact std0 | exact PRun.indexA0 tabOk rfl rfl nd rfl nd rfl (zA0 _) rfl ⟨by omega, by omega⟩ | exact PRun.loadE tabOk rfl rfl nd rfl (zA0 _) rfl rfl rfl | exact std1)) (by exact rfl) ?_
        | refine yqQ (a := 0) (b := 2) rfl (by decide +kernel) (by decide +kernel) rfl rfl rfl (fun k h1 h2 hg => by (have hk : k = 0 ∨ k = 1 ∨ k = 2 := (by omega)); (rcases hk with rfl | rfl | rfl) <;> (first | exact std0 | exact PRun.indexA0 tabOk rfl rfl nd rfl nd rfl (zA0 _) rfl ⟨by omega, by omega⟩ | exact PRun.loadE tabOk rfl rfl nd rfl (zA0 _) rfl rfl rfl | exact std1)) (by exact rfl) ?_
        | refine yqQ (a := 1) (b := 2) rfl (by decide +kernel) (by decide +kernel) rfl rfl rfl (fun k h1 h2 hg => by (have hk : k = 1 ∨ k = 2 := (by omega)); (rcases hk with rfl | rfl) <;> (first | exact std0 | exact PRun.indexA0 tabOk rfl rfl nd rfl nd rfl (zA0 _) rfl ⟨by omega, by omega⟩ | exact PRun.loadE tabOk rfl rfl nd rfl (zA0 _) rfl rfl rfl | exact std1)) (by exact rfl) ?_
        | refine yqQ (a := 2) (b := 2) rfl (by decide +kernel) (by decide +kernel) rfl rfl rfl (fun k h1 h2 hg => by (have hk : k = 2 := (by omega)); (rcases hk with rfl) <;> (first | exact std0 | exact PRun.indexA0 tabOk rfl rfl nd rfl nd rfl (zA0 _) rfl ⟨by omega, by omega⟩ | exact PRun.loadE tabOk rfl rfl nd rfl (zA0 _) rfl rfl rfl | exact std1)) (by exact rfl) ?_)
       refine YQ.e (v := .any) (d := none) rfl rfl rfl ?_ ?_
       · intro env' he
         exact EStep.storeE (l := 0) tabOk rfl rfl ((rdv_congr (he 118 (by decide +kernel))).trans rfl) (by rw [rdn_congr (he 118 (by decide +kernel))]; first | exact tI | exact rfl) rfl hix ((rdv_congr (he 116 (by decide +kernel))).trans rfl) (by rw [rdn_congr (he 116 (by decide +kernel))]; first | exact tI | exact rfl) rfl rfl rfl rfl rfl rfl ⟨rfl, rfl⟩
       repeat' (first
        | refine yqQ (a := 0) (b := 0) rfl (by decide +kernel) (by decide +kernel) rfl rfl rfl (fun k h1 h2 hg => by (have hk : k = 0 := (by omega)); (rcases hk with rfl) <;> (first | exact std0 | exact PRun.indexA0 tabOk rfl rfl nd rfl nd rfl (zA0 _) rfl ⟨by omega, by omega⟩ | exact PRun.loadE tabOk rfl rfl nd rfl (zA0 _) rfl rfl rfl | exact std1)) (by exact rfl) ?_
        | refine yqQ (a := 0) (b := 1) rfl (by decide +kernel) (by decide +kernel) rfl rfl rfl (fun k h1 h2 hg => by (have hk : k = 0 ∨ k = 1 := (by omega)); (rcases hk with rfl | rfl) <;> (first | exact std0 | exact PRun.indexA0 tabOk rfl rfl nd rfl nd rfl (zA0 _) rfl ⟨by omega, by omega⟩ | exact PRun.loadE tabOk rfl rfl nd rfl (zA0 _) rfl rfl rfl | exact std1)) (by exact rfl) ?_
        | refine yqQ (a := 1) (b := 1) rfl (by decide +kernel) (by decide +kernel) rfl rfl rfl (fun k h1 h2 hg => by (have hk : k = 1 := (by omega)); (rcases hk with rfl) <;> (first | exact std0 | exact PRun.indexA0 tabOk rfl rfl nd rfl nd rfl (zA0 _) rfl ⟨by omega, by omega⟩ | exact PRun.loadE tabOk rfl rfl nd rfl (zA0 _) rfl rfl rfl | exact std1)) (by exact rfl) ?_
        | refine yqQ (a := 0) (b := 2) rfl (by decide +kernel) (by decide +kernel) rfl rfl rfl (fun k h1 h2 hg => by (have hk : k = 0 ∨ k = 1 ∨ k = 2 := (by omega)); (rcases hk with rfl | rfl | rfl) <;> (first | exact std0 | exact PRun.indexA0 tabOk rfl rfl nd rfl nd rfl (zA0 _) rfl ⟨by omega, by omega⟩ | exact PRun.loadE tabOk rfl rfl nd rfl (zA0 _) rfl rfl rfl | exact std1)) (by exact rfl) ?_
        | refine yqQ (a := 1) (b := 2) rfl (by decide +kernel) (by decide +kernel) rfl rfl rfl (fun k h1 h2 hg => by (have hk : k = 1 ∨ k = 2 := (by omega)); (rcases hk with rfl | rfl) <;> (first | exact std0 | exact PRun.indexA0 tabOk rfl rfl nd rfl nd rfl (zA0 _) rfl ⟨by omega, by omega⟩ | exact PRun.loadE tabOk rfl rfl nd rfl (zA0 _) rfl rfl rfl | exact std1)) (by exact rfl) ?_
        | refine yqQ (a := 2) (b := 2) rfl (by decide +kernel) (by decide +kernel) rfl rfl rfl (fun k h1 h2 hg => by (have hk : k = 2 := (by omega)); (rcases hk with rfl) <;> (first | exact std0 | exact PRun.indexA0 tabOk rfl rfl nd rfl nd rfl (zA0 _) rfl ⟨by omega, by omega⟩ | exact PRun.loadE tabOk rfl rfl nd rfl (zA0 _) rfl rfl rfl | exact std1)) (by exact rfl) ?_)
       refine YQ.e (v := .any) (d := none) rfl rfl rfl ?_ ?_
       · intro env' he
         exact EStep.storeE (l := 0) tabOk rfl rfl ((rdv_congr (he 119 (by decide +kernel))).trans rfl) (by rw [rdn_congr (he 119 (by decide +kernel))]; first | exact tI | exact rfl) rfl hkx ((rdv_congr (he 117 (by decide +kernel))).trans rfl) (by rw [rdn_congr (he 117 (by decide +kernel))]; first | exact tI | exact rfl) rfl rfl rfl rfl rfl rfl ⟨rfl, rfl⟩
       repeat' (first
        | refine yqQ (a := 0) (b := 0) rfl (by decide +kernel) (by decide +kernel) rfl rfl rfl (fun k h1 h2 hg => by (have hk : k = 0 := (by omega)); (rcases hk with rfl) <;> (first | exact std0 | exact PRun.indexA0 tabOk rfl rfl nd rfl nd rfl (zA0 _) rfl ⟨by omega, by omega⟩ | exact PRun.loadE tabOk rfl rfl nd rfl (zA0 _) rfl rfl rfl | exact std1)) (by exact rfl) ?_
        | refine yqQ (a := 0) (b := 1) rfl (by decide +kernel) (by decide +kernel) rfl rfl rfl (fun k h1 h2 hg => by (have hk : k = 0 ∨ k = 1 := (by omega)); (rcases hk with rfl | rfl) <;> (first | exact std0 | exact PRun.indexA0 tabOk rfl rfl nd rfl nd rfl (zA0 _) rfl ⟨by omega, by omega⟩ | exact PRun.loadE tabOk rfl rfl nd rfl (zA0 _) rfl rfl rfl | exact std1)) (by exact rfl) ?_
        | refine yqQ (a := 1) (b := 1) rfl (by decide +kernel) (by decide +kernel) rfl rfl rfl (fun k h1 h2 hg => by (have hk : k = 1 := (by omega)); (rcases hk with rfl) <;> (first | exact std0 | exact PRun.indexA0 tabOk rfl rfl nd rfl nd rfl (zA0 _) rfl ⟨by omega, by omega⟩ | exact PRun.loadE tabOk rfl rfl nd rfl (zA0 _) rfl rfl rfl | exact std1)) (by exact rfl) ?_
        | refine yqQ (a := 0) (b := 2) rfl (by decide +kernel) (by decide +kernel) rfl rfl rfl (fun k h1 h2 hg => by (have hk : k = 0 ∨ k = 1 ∨ k = 2 := (by omega)); (rcases hk with rfl | rfl | rfl) <;> (first | exact std0 | exact PRun.indexA0 tabOk rfl rfl nd rfl nd rfl (zA0 _) rfl ⟨by omega, by omega⟩ | exact PRun.loadE tabOk rfl rfl nd rfl (zA0 _) rfl rfl rfl | exact std1)) (by exact rfl) ?_
        | refine yqQ (a := 1) (b := 2) rfl (by decide +kernel) (by decide +kernel) rfl rfl rfl (fun k h1 h2 hg => by (have hk : k = 1 ∨ k = 2 := (by omega)); (rcases hk with rfl | rfl) <;> (first | exact std0 | exact PRun.indexA0 tabOk rfl rfl nd rfl nd rfl (zA0 _) rfl ⟨by omega, by omega⟩ | exact PRun.loadE tabOk rfl rfl nd rfl (zA0 _) rfl rfl rfl | exact std1)) (by exact rfl) ?_
        | refine yqQ (a := 2) (b := 2) rfl (by decide +kernel) (by decide +kernel) rfl rfl rfl (fun k h1 h2 hg => by (have hk : k = 2 := (by omega)); (rcases hk with rfl) <;> (first | exact std0 | exact PRun.indexA0 tabOk rfl rfl nd rfl nd rfl (zA0 _) rfl ⟨by omega, by omega⟩ | exact PRun.loadE tabOk rfl rfl nd rfl (zA0 _) rfl rfl rfl | exact std1)) (by exact rfl) ?_)
       refine YQ.nil (hK _ _ ?_)
       clear hK K'
       repeat' (first | refine aoQ rfl rfl rfl (fun hg => by exact std0) (by exact rfl) ?_ | refine sqW ?_ | refine rgK (fun K' hK => ?_) | (refine aoN (hK _ _ ?_); clear hK K') | refine rtW ?_)
       refine ⟨.inr rfl, .b true, tabS n ver (set1 (set1 t i X.1) k X.2.1), ⟨rfl, by rw [g2]⟩, (by show [AObj.arr 10 ver ((((tabsL n t).map encTab).set i (encTab X.1)).set k (encTab X.2.1))] = [AObj.arr 10 ver ((tabsL n (set1 (set1 t i X.1) k X.2.1)).map encTab)]; rw [← tabs_set hk, ← tabs_set hi, zCg, zCg]), by simp, okTabs _ _, rfl, rfl⟩
     · obtain ⟨g1, g2⟩ := f5 c hik hup
       refine cdW rfl tI (fun hc => ?_) (fun hc => ?_)
       · repeat' (first | refine aoQ rfl rfl rfl (fun hg => by exact std0) (by exact rfl) ?_ | refine sqW ?_ | refine rgK (fun K' hK => ?_) | (refine aoN (hK _ _ ?_); clear hK K') | refine rtW ?_)
         refine ⟨.inr rfl, .b true, tabS n ver t, ⟨rfl, by rw [g2]⟩, rfl, by simp, okTabs _ _, rfl, (by show some _ = some _; rw [g1]; rfl)⟩
       · exfalso
         have hc2 : (!(t i).up || !(t k).up) = false := hc
         rw [zAo, zAv, zAv] at hc2
         exact hup hc2
 · have r5 : (d.what : Int).tmod 5 = 3 := by rw [r4, c]; rfl
   repeat' (first | refine aoQ rfl rfl rfl (fun hg => by first | exact PRun.remV r5 (by decide) rfl rfl nd rfl nd | exact std0) (by exact rfl) ?_ | refine sqW ?_ | refine rgK (fun K' hK => ?_) | (refine aoN (hK _ _ ?_); clear hK K') | refine blK ?_)
   refine cdW rfl tI (fun hc => absurd hc (by decide)) (fun hc => ?_)
   repeat' (first | refine aoQ rfl rfl rfl (fun hg => by exact std0) (by exact rfl) ?_ | refine rgK (fun K' hK => ?_) | (refine aoN (hK _ _ ?_); clear hK K'))
   refine cdW rfl tI (fun hc => absurd hc (by decide)) (fun hc => ?_)
   repeat' (first | refine aoQ rfl rfl rfl (fun hg => by exact std0) (by exact rfl) ?_ | refine sqW ?_ | refine rgK (fun K' hK => ?_) | (refine aoN (hK _ _ ?_); clear hK K'))
   refine cdW rfl tI (fun hc => absurd hc (by decide)) (fun hc => ?_)
   repeat' (first | refine aoQ rfl rfl rfl (fun hg => by exact std0) (by exact rfl) ?_ | refine sqW ?_ | refine rgK (fun K' hK => ?_) | (refine aoN (hK _ _ ?_); clear hK K'))
   refine cdW rfl tI (fun hc => ?_) (fun hc => absurd hc (by decide))
   have hs := validT_said vT
   have hsl := (said_len (t i).b iT.b).2.2
   have hbl := iT.b
   have r6 : (d.cut : Int).tmod (max 0 (((t i).b.length : Int) - (t i).sure) + 1) = (d.cut : Int) % (max 0 (((t i).b.length : Int) - (t i).sure) + 1) := Int.tmod_eq_emod_of_nonneg (zB4 _)
   have q1 := Int.emod_nonneg (d.cut : Int) (show max 0 (((t i).b.length : Int) - (t i).sure) + 1 ≠ 0 by omega)
   have q2 := Int.emod_lt_of_pos (d.cut : Int) (show 0 < max 0 (((t i).b.length : Int) - (t i).sure) + 1 by omega)
   have w : PCall Tryz.prog 12 [.agg (encTab (t i)), .int ((t i).sure + (d.cut : Int) % (max 0 (((t i).b.length : Int) - (t i).sure) + 1))] (tupT (crashT (t i) (crashAt (t i) d.cut))) := crash_spec (t i) iT (crashAt (t i) d.cut)
   cases hup : (t i).up with
   | false =>
     obtain ⟨g1, g2⟩ := f8 c hup
     generalize crashT (t i) (crashAt (t i) d.cut) = W at *
     obtain ⟨W1, W2⟩ := W
     dsimp only at g1
     subst g1
     change PCall _ _ _ (.tup [.agg (encTab W1), .int 6]) at w
     repeat' (first | refine sqW ?_)
     refine AWP.drawY (fun j => match j with | 0 => [.arr 10 ver ((tabsL n t).map encTab), .var (encDeed d), .var (encTab (t i)), .var (encE ⟨clockE (t i).s.evs + 1, (t i).s.id, 3, ((d.cut % 1001 : Nat) : Int), noMark⟩)] | _ => [.arr 10 ver ((tabsL n t).map encTab), .var (encDeed d), .var (encTab W1), .var (encE ⟨clockE (t i).s.evs + 1, (t i).s.id, 3, ((d.cut % 1001 : Nat) : Int), noMark⟩)]) rfl (by kernel_rfl) (by decide +kernel) rfl (by decide +kernel) (fun K' hK => ?_)
     repeat' (first
      | refine yqQ (a := 0) (b := 0) rfl (by decide +kernel) (by decide +kernel) rfl rfl rfl (fun k h1 h2 hg => by (have hk : k = 0 := (by omega)); (rcases hk with rfl) <;> (first | exact PRun.remV r6 (by omega) rfl rfl nd rfl nd | exact PRun.convV tabOk c3 rfl rfl nd rfl rfl | exact std0 | exact pcW (w) rfl rfl nd rfl nds | exact std1)) (by exact rfl) ?_
      | refine yqQ (a := 0) (b := 1) rfl (by decide +kernel) (by decide +kernel) rfl rfl rfl (fun k h1 h2 hg => by (have hk : k = 0 ∨ k = 1 := (by omega)); (rcases hk with rfl | rfl) <;> (first | exact PRun.remV r6 (by omega) rfl rfl nd rfl nd | exact PRun.convV tabOk c3 rfl rfl nd rfl rfl | exact std0 | exact pcW (w) rfl rfl nd rfl nds | exact std1)) (by exact rfl) ?_
      | refine yqQ (a := 1) (b := 1) rfl (by decide +kernel) (by decide +kernel) rfl rfl rfl (fun k h1 h2 hg => by (have hk : k = 1 := (by omega)); (rcases hk with rfl) <;> (first | exact PRun.remV r6 (by omega) rfl rfl nd rfl nd | exact PRun.convV tabOk c3 rfl rfl nd rfl rfl | exact std0 | exact pcW (w) rfl rfl nd rfl nds | exact std1)) (by exact rfl) ?_
      | refine yqQ (a := 0) (b := 2) rfl (by decide +kernel) (by decide +kernel) rfl rfl rfl (fun k h1 h2 hg => by (have hk : k = 0 ∨ k = 1 ∨ k = 2 := (by omega)); (rcases hk with rfl | rfl | rfl) <;> (first | exact PRun.remV r6 (by omega) rfl rfl nd rfl nd | exact PRun.convV tabOk c3 rfl rfl nd rfl rfl | exact std0 | exact pcW (w) rfl rfl nd rfl nds | exact std1)) (by exact rfl) ?_
      | refine yqQ (a := 1) (b := 2) rfl (by decide +kernel) (by decide +kernel) rfl rfl rfl (fun k h1 h2 hg => by (have hk : k = 1 ∨ k = 2 := (by omega)); (rcases hk with rfl | rfl) <;> (first | exact PRun.remV r6 (by omega) rfl rfl nd rfl nd | exact PRun.convV tabOk c3 rfl rfl nd rfl rfl | exact std0 | exact pcW (w) rfl rfl nd rfl nds | exact std1)) (by exact rfl) ?_
      | refine yqQ (a := 2) (b := 2) rfl (by decide +kernel) (by decide +kernel) rfl rfl rfl (fun k h1 h2 hg => by (have hk : k = 2 := (by omega)); (rcases hk with rfl) <;> (first | exact PRun.remV r6 (by omega) rfl rfl nd rfl nd | exact PRun.convV tabOk c3 rfl rfl nd rfl rfl | exact std0 | exact pcW (w) rfl rfl nd rfl nds | exact std1)) (by exact rfl) ?_)
     refine YQ.e (v := .any) (d := none) rfl rfl rfl ?_ ?_
     · intro env' he
       exact stW tabOk rfl rfl ((rdv_congr (he 7 (by decide +kernel))).trans rfl) (by rw [rdn_congr (he 7 (by decide +kernel))]; first | exact tI | exact rfl) rfl ((rdv_congr (he 140 (by decide +kernel))).trans rfl) (by rw [rdn_congr (he 140 (by decide +kernel))]; first | exact tI | exact rfl) rfl rfl rfl rfl rfl rfl rfl ⟨rfl, rfl⟩
     repeat' (first
      | refine yqQ (a := 0) (b := 0) rfl (by decide +kernel) (by decide +kernel) rfl rfl rfl (fun k h1 h2 hg => by (have hk : k = 0 := (by omega)); (rcases hk with rfl) <;> (first | exact PRun.remV r6 (by omega) rfl rfl nd rfl nd | exact PRun.convV tabOk c3 rfl rfl nd rfl rfl | exact std0 | exact pcW (w) rfl rfl nd rfl nds | exact std1)) (by exact rfl) ?_
      | refine yqQ (a := 0) (b := 1) rfl (by decide +kernel) (by decide +kernel) rfl rfl rfl (fun k h1 h2 hg => by (have hk : k = 0 ∨ k = 1 := (by omega)); (rcases hk with rfl | rfl) <;> (first | exact PRun.remV r6 (by omega) rfl rfl nd rfl nd | exact PRun.convV tabOk c3 rfl rfl nd rfl rfl | exact std0 | exact pcW (w) rfl rfl nd rfl nds | exact std1)) (by exact rfl) ?_
      | refine yqQ (a := 1) (b := 1) rfl (by decide +kernel) (by decide +kernel) rfl rfl rfl (fun k h1 h2 hg => by (have hk : k = 1 := (by omega)); (rcases hk with rfl) <;> (first | exact PRun.remV r6 (by omega) rfl rfl nd rfl nd | exact PRun.convV tabOk c3 rfl rfl nd rfl rfl | exact std0 | exact pcW (w) rfl rfl nd rfl nds | exact std1)) (by exact rfl) ?_
      | refine yqQ (a := 0) (b := 2) rfl (by decide +kernel) (by decide +kernel) rfl rfl rfl (fun k h1 h2 hg => by (have hk : k = 0 ∨ k = 1 ∨ k = 2 := (by omega)); (rcases hk with rfl | rfl | rfl) <;> (first | exact PRun.remV r6 (by omega) rfl rfl nd rfl nd | exact PRun.convV tabOk c3 rfl rfl nd rfl rfl | exact std0 | exact pcW (w) rfl rfl nd rfl nds | exact std1)) (by exact rfl) ?_
      | refine yqQ (a := 1) (b := 2) rfl (by decide +kernel) (by decide +kernel) rfl rfl rfl (fun k h1 h2 hg => by (have hk : k = 1 ∨ k = 2 := (by omega)); (rcases hk with rfl | rfl) <;> (first | exact PRun.remV r6 (by omega) rfl rfl nd rfl nd | exact PRun.convV tabOk c3 rfl rfl nd rfl rfl | exact std0 | exact pcW (w) rfl rfl nd rfl nds | exact std1)) (by exact rfl) ?_
      | refine yqQ (a := 2) (b := 2) rfl (by decide +kernel) (by decide +kernel) rfl rfl rfl (fun k h1 h2 hg => by (have hk : k = 2 := (by omega)); (rcases hk with rfl) <;> (first | exact PRun.remV r6 (by omega) rfl rfl nd rfl nd | exact PRun.convV tabOk c3 rfl rfl nd rfl rfl | exact std0 | exact pcW (w) rfl rfl nd rfl nds | exact std1)) (by exact rfl) ?_)
     refine YQ.nil (hK _ _ ?_)
     clear hK K'
     repeat' (first | refine aoQ rfl rfl rfl (fun hg => by first | exact PRun.eq (v := .b ((tabsL n t).getD ((i : Nat) : Int).toNat default).up) (PRun.loadEM (f := encTab) (xs := tabsL n t) tabOk rfl rfl nd rfl (by omega) rfl rfl) (congrArg (fun x => AV.b x.up) eT) | exact std0 | exact PRun.indexA0 tabOk rfl rfl nd rfl nd rfl (zA0 _) rfl ⟨by omega, by omega⟩ | exact PRun.fieldE tabOk rfl rfl nd rfl rfl) (by exact rfl) ?_ | refine sqW ?_ | refine rgK (fun K' hK => ?_) | (refine aoN (hK _ _ ?_); clear hK K'))
     refine cdW rfl tI (fun hc => ?_) (fun hc => ?_)
     · repeat' (first | refine aoQ rfl rfl rfl (fun hg => by exact std0) (by exact rfl) ?_ | refine sqW ?_ | refine rgK (fun K' hK => ?_) | (refine aoN (hK _ _ ?_); clear hK K') | refine rtW ?_)
       refine ⟨.inr rfl, .b true, tabS n ver t, ⟨rfl, by rw [g2]⟩, rfl, by simp, okTabs _ _, rfl, rfl⟩
     · exfalso; rw [hup] at hc; cases hc
   | true =>
     obtain ⟨g1, g3, g2⟩ := f7 c hup
     generalize crashT (t i) (crashAt (t i) d.cut) = W at *
     obtain ⟨W1, W2⟩ := W
     dsimp only at g1 g2 g3
     subst g1
     change PCall _ _ _ (.tup [.agg (encTab W1), .int 0]) at w
     repeat' (first | refine sqW ?_)
     refine AWP.drawY (fun j => match j with | 0 => [.arr 10 ver ((tabsL n t).map encTab), .var (encDeed d), .var (encTab (t i)), .var (encE ⟨clockE (t i).s.evs + 1, (t i).s.id, 3, ((d.cut % 1001 : Nat) : Int), noMark⟩)] | _ => [.arr 10 ver ((tabsL n t).map encTab), .var (encDeed d), .var (encTab W1), .var (encE ⟨clockE (t i).s.evs + 1, (t i).s.id, 3, ((d.cut % 1001 : Nat) : Int), noMark⟩)]) rfl (by kernel_rfl) (by decide +kernel) rfl (by decide +kernel) (fun K' hK => ?_)
     repeat' (first
      | refine yqQ (a := 0) (b := 0) rfl (by decide +kernel) (by decide +kernel) rfl rfl rfl (fun k h1 h2 hg => by (have hk : k = 0 := (by omega)); (rcases hk with rfl) <;> (first | exact PRun.remV r6 (by omega) rfl rfl nd rfl nd | exact PRun.convV tabOk c3 rfl rfl nd rfl rfl | exact std0 | exact pcW (w) rfl rfl nd rfl nds | exact std1)) (by exact rfl) ?_
      | refine yqQ (a := 0) (b := 1) rfl (by decide +kernel) (by decide +kernel) rfl rfl rfl (fun k h1 h2 hg => by (have hk : k = 0 ∨ k = 1 := (by omega)); (rcases hk with rfl | rfl) <;> (first | exact PRun.remV r6 (by omega) rfl rfl nd rfl nd | exact PRun.convV tabOk c3 rfl rfl nd rfl rfl | exact std0 | exact pcW (w) rfl rfl nd rfl nds | exact std1)) (by exact rfl) ?_
      | refine yqQ (a := 1) (b := 1) rfl (by decide +kernel) (by decide +kernel) rfl rfl rfl (fun k h1 h2 hg => by (have hk : k = 1 := (by omega)); (rcases hk with rfl) <;> (first | exact PRun.remV r6 (by omega) rfl rfl nd rfl nd | exact PRun.convV tabOk c3 rfl rfl nd rfl rfl | exact std0 | exact pcW (w) rfl rfl nd rfl nds | exact std1)) (by exact rfl) ?_
      | refine yqQ (a := 0) (b := 2) rfl (by decide +kernel) (by decide +kernel) rfl rfl rfl (fun k h1 h2 hg => by (have hk : k = 0 ∨ k = 1 ∨ k = 2 := (by omega)); (rcases hk with rfl | rfl | rfl) <;> (first | exact PRun.remV r6 (by omega) rfl rfl nd rfl nd | exact PRun.convV tabOk c3 rfl rfl nd rfl rfl | exact std0 | exact pcW (w) rfl rfl nd rfl nds | exact std1)) (by exact rfl) ?_
      | refine yqQ (a := 1) (b := 2) rfl (by decide +kernel) (by decide +kernel) rfl rfl rfl (fun k h1 h2 hg => by (have hk : k = 1 ∨ k = 2 := (by omega)); (rcases hk with rfl | rfl) <;> (first | exact PRun.remV r6 (by omega) rfl rfl nd rfl nd | exact PRun.convV tabOk c3 rfl rfl nd rfl rfl | exact std0 | exact pcW (w) rfl rfl nd rfl nds | exact std1)) (by exact rfl) ?_
      | refine yqQ (a := 2) (b := 2) rfl (by decide +kernel) (by decide +kernel) rfl rfl rfl (fun k h1 h2 hg => by (have hk : k = 2 := (by omega)); (rcases hk with rfl) <;> (first | exact PRun.remV r6 (by omega) rfl rfl nd rfl nd | exact PRun.convV tabOk c3 rfl rfl nd rfl rfl | exact std0 | exact pcW (w) rfl rfl nd rfl nds | exact std1)) (by exact rfl) ?_)
     refine YQ.e (v := .any) (d := none) rfl rfl rfl ?_ ?_
     · intro env' he
       exact stW tabOk rfl rfl ((rdv_congr (he 7 (by decide +kernel))).trans rfl) (by rw [rdn_congr (he 7 (by decide +kernel))]; first | exact tI | exact rfl) rfl ((rdv_congr (he 140 (by decide +kernel))).trans rfl) (by rw [rdn_congr (he 140 (by decide +kernel))]; first | exact tI | exact rfl) rfl rfl rfl rfl rfl rfl rfl ⟨rfl, rfl⟩
     repeat' (first
      | refine yqQ (a := 0) (b := 0) rfl (by decide +kernel) (by decide +kernel) rfl rfl rfl (fun k h1 h2 hg => by (have hk : k = 0 := (by omega)); (rcases hk with rfl) <;> (first | exact PRun.remV r6 (by omega) rfl rfl nd rfl nd | exact PRun.convV tabOk c3 rfl rfl nd rfl rfl | exact std0 | exact pcW (w) rfl rfl nd rfl nds | exact std1)) (by exact rfl) ?_
      | refine yqQ (a := 0) (b := 1) rfl (by decide +kernel) (by decide +kernel) rfl rfl rfl (fun k h1 h2 hg => by (have hk : k = 0 ∨ k = 1 := (by omega)); (rcases hk with rfl | rfl) <;> (first | exact PRun.remV r6 (by omega) rfl rfl nd rfl nd | exact PRun.convV tabOk c3 rfl rfl nd rfl rfl | exact std0 | exact pcW (w) rfl rfl nd rfl nds | exact std1)) (by exact rfl) ?_
      | refine yqQ (a := 1) (b := 1) rfl (by decide +kernel) (by decide +kernel) rfl rfl rfl (fun k h1 h2 hg => by (have hk : k = 1 := (by omega)); (rcases hk with rfl) <;> (first | exact PRun.remV r6 (by omega) rfl rfl nd rfl nd | exact PRun.convV tabOk c3 rfl rfl nd rfl rfl | exact std0 | exact pcW (w) rfl rfl nd rfl nds | exact std1)) (by exact rfl) ?_
      | refine yqQ (a := 0) (b := 2) rfl (by decide +kernel) (by decide +kernel) rfl rfl rfl (fun k h1 h2 hg => by (have hk : k = 0 ∨ k = 1 ∨ k = 2 := (by omega)); (rcases hk with rfl | rfl | rfl) <;> (first | exact PRun.remV r6 (by omega) rfl rfl nd rfl nd | exact PRun.convV tabOk c3 rfl rfl nd rfl rfl | exact std0 | exact pcW (w) rfl rfl nd rfl nds | exact std1)) (by exact rfl) ?_
      | refine yqQ (a := 1) (b := 2) rfl (by decide +kernel) (by decide +kernel) rfl rfl rfl (fun k h1 h2 hg => by (have hk : k = 1 ∨ k = 2 := (by omega)); (rcases hk with rfl | rfl) <;> (first | exact PRun.remV r6 (by omega) rfl rfl nd rfl nd | exact PRun.convV tabOk c3 rfl rfl nd rfl rfl | exact std0 | exact pcW (w) rfl rfl nd rfl nds | exact std1)) (by exact rfl) ?_
      | refine yqQ (a := 2) (b := 2) rfl (by decide +kernel) (by decide +kernel) rfl rfl rfl (fun k h1 h2 hg => by (have hk : k = 2 := (by omega)); (rcases hk with rfl) <;> (first | exact PRun.remV r6 (by omega) rfl rfl nd rfl nd | exact PRun.convV tabOk c3 rfl rfl nd rfl rfl | exact std0 | exact pcW (w) rfl rfl nd rfl nds | exact std1)) (by exact rfl) ?_)
     refine YQ.nil (hK _ _ ?_)
     clear hK K'
     repeat' (first | refine aoQ rfl rfl rfl (fun hg => by first | exact PRun.eq (v := .b ((tabsL n t).getD ((i : Nat) : Int).toNat default).up) (PRun.loadEM (f := encTab) (xs := tabsL n t) tabOk rfl rfl nd rfl (by omega) rfl rfl) (congrArg (fun x => AV.b x.up) eT) | exact std0 | exact PRun.indexA0 tabOk rfl rfl nd rfl nd rfl (zA0 _) rfl ⟨by omega, by omega⟩ | exact PRun.fieldE tabOk rfl rfl nd rfl rfl) (by exact rfl) ?_ | refine sqW ?_ | refine rgK (fun K' hK => ?_) | (refine aoN (hK _ _ ?_); clear hK K'))
     refine cdW rfl tI (fun hc => ?_) (fun hc => ?_)
     · exfalso; rw [hup] at hc; cases hc
     have tv := tvalid_spec W1 (tabIn_of g3)
     rw [g3] at tv
     repeat' (first | refine aoQ rfl rfl rfl (fun hg => by first | exact std0 | exact PRun.indexA0 tabOk rfl rfl nd rfl nd rfl (zA0 _) rfl ⟨by omega, by omega⟩ | exact pcW (tv) rfl rfl nd rfl nds) (by exact rfl) ?_ | refine sqW ?_ | refine rgK (fun K' hK => ?_) | (refine aoN (hK _ _ ?_); clear hK K') | refine aoE (EStep.storeE (l := 0) tabOk rfl rfl rfl tI rfl hix rfl tI rfl rfl rfl rfl rfl rfl ?_) | refine skW ?_ | refine rtW ?_)
     refine ⟨.inr rfl, .b true, tabS n ver (set1 t i W1), ⟨rfl, by rw [g2]⟩, (by show [AObj.arr 10 ver (((tabsL n t).map encTab).set ((i : Nat) : Int).toNat (encTab W1))] = [AObj.arr 10 ver ((tabsL n (set1 t i W1)).map encTab)]; rw [← tabs_set hi, zCg]; rfl), by simp, okTabs _ _, rfl, rfl⟩
 · have r5 : (d.what : Int).tmod 5 = 4 := by rw [r4, c]; rfl
   repeat' (first | refine aoQ rfl rfl rfl (fun hg => by first | exact PRun.remV r5 (by decide) rfl rfl nd rfl nd | exact std0) (by exact rfl) ?_ | refine sqW ?_ | refine rgK (fun K' hK => ?_) | (refine aoN (hK _ _ ?_); clear hK K') | refine blK ?_)
   refine cdW rfl tI (fun hc => absurd hc (by decide)) (fun hc => ?_)
   repeat' (first | refine aoQ rfl rfl rfl (fun hg => by exact std0) (by exact rfl) ?_ | refine rgK (fun K' hK => ?_) | (refine aoN (hK _ _ ?_); clear hK K'))
   refine cdW rfl tI (fun hc => absurd hc (by decide)) (fun hc => ?_)
   repeat' (first | refine aoQ rfl rfl rfl (fun hg => by exact std0) (by exact rfl) ?_ | refine sqW ?_ | refine rgK (fun K' hK => ?_) | (refine aoN (hK _ _ ?_); clear hK K'))
   refine cdW rfl tI (fun hc => absurd hc (by decide)) (fun hc => ?_)
   repeat' (first | refine aoQ rfl rfl rfl (fun hg => by exact std0) (by exact rfl) ?_ | refine sqW ?_ | refine rgK (fun K' hK => ?_) | (refine aoN (hK _ _ ?_); clear hK K'))
   refine cdW rfl tI (fun hc => absurd hc (by decide)) (fun hc => ?_)
   repeat' (first | refine aoQ rfl rfl rfl (fun hg => by exact std0) (by exact rfl) ?_ | refine sqW ?_ | refine rgK (fun K' hK => ?_) | (refine aoN (hK _ _ ?_); clear hK K'))
   refine cdW rfl tI (fun hc => ?_) (fun hc => absurd hc (by decide))
   have w := wake_spec (t i) iT
   cases hup : (t i).up with
   | true =>
     obtain ⟨g1, g2⟩ := f9 c hup
     generalize wakeT (t i) = W at *
     obtain ⟨W1, W2⟩ := W
     dsimp only at g1
     subst g1
     change PCall _ _ _ (.tup [.agg (encTab W1), .int 6]) at w
     repeat' (first | refine aoQ rfl rfl rfl (fun hg => by first | exact PRun.eq (v := .b ((tabsL n t).getD ((i : Nat) : Int).toNat default).up) (PRun.loadEM (f := encTab) (xs := tabsL n t) tabOk rfl rfl nd rfl (by omega) rfl rfl) (congrArg (fun x => AV.b x.up) (eT.trans (by rfl))) | exact std0 | exact pcW (w) rfl rfl nd rfl nds | exact PRun.indexA0 tabOk rfl rfl nd rfl nd rfl (zA0 _) rfl ⟨by omega, by omega⟩ | exact PRun.fieldE tabOk rfl rfl nd rfl rfl) (by exact rfl) ?_ | refine sqW ?_ | refine rgK (fun K' hK => ?_) | (refine aoN (hK _ _ ?_); clear hK K') | refine aoE (stW tabOk rfl rfl rfl tI rfl rfl tI rfl rfl rfl rfl rfl rfl rfl ?_))
     refine cdW rfl tI (fun hc => ?_) (fun hc => ?_)
     · repeat' (first | refine aoQ rfl rfl rfl (fun hg => by exact std0) (by exact rfl) ?_ | refine sqW ?_ | refine rgK (fun K' hK => ?_) | (refine aoN (hK _ _ ?_); clear hK K') | refine rtW ?_)
       refine ⟨.inr rfl, .b true, tabS n ver t, ⟨rfl, by rw [g2]⟩, rfl, by simp, okTabs _ _, rfl, rfl⟩
     · exfalso; rw [hup] at hc; cases hc
   | false =>
     obtain ⟨g1, g3, g2⟩ := f10 c hup
     generalize wakeT (t i) = W at *
     obtain ⟨W1, W2⟩ := W
     dsimp only at g1 g2 g3
     subst g1
     change PCall _ _ _ (.tup [.agg (encTab W1), .int 0]) at w
     repeat' (first | refine aoQ rfl rfl rfl (fun hg => by first | exact PRun.eq (v := .b ((tabsL n t).getD ((i : Nat) : Int).toNat default).up) (PRun.loadEM (f := encTab) (xs := tabsL n t) tabOk rfl rfl nd rfl (by omega) rfl rfl) (congrArg (fun x => AV.b x.up) (eT.trans (by rfl))) | exact std0 | exact pcW (w) rfl rfl nd rfl nds | exact PRun.indexA0 tabOk rfl rfl nd rfl nd rfl (zA0 _) rfl ⟨by omega, by omega⟩ | exact PRun.fieldE tabOk rfl rfl nd rfl rfl) (by exact rfl) ?_ | refine sqW ?_ | refine rgK (fun K' hK => ?_) | (refine aoN (hK _ _ ?_); clear hK K') | refine aoE (stW tabOk rfl rfl rfl tI rfl rfl tI rfl rfl rfl rfl rfl rfl rfl ?_))
     refine cdW rfl tI (fun hc => ?_) (fun hc => ?_)
     · exfalso; rw [hup] at hc; cases hc
     have tv := tvalid_spec W1 (tabIn_of g3)
     rw [g3] at tv
     repeat' (first | refine aoQ rfl rfl rfl (fun hg => by first | exact std0 | exact PRun.indexA0 tabOk rfl rfl nd rfl nd rfl (zA0 _) rfl ⟨by omega, by omega⟩ | exact pcW (tv) rfl rfl nd rfl nds) (by exact rfl) ?_ | refine sqW ?_ | refine rgK (fun K' hK => ?_) | (refine aoN (hK _ _ ?_); clear hK K') | refine aoE (EStep.storeE (l := 0) tabOk rfl rfl rfl tI rfl hix rfl tI rfl rfl rfl rfl rfl rfl ?_) | refine skW ?_ | refine rtW ?_)
     refine ⟨.inr rfl, .b true, tabS n ver (set1 t i W1), ⟨rfl, by rw [g2]⟩, (by show [AObj.arr 10 ver (((tabsL n t).map encTab).set ((i : Nat) : Int).toNat (encTab W1))] = [AObj.arr 10 ver ((tabsL n (set1 t i W1)).map encTab)]; rw [← tabs_set hi, zCg]; rfl), by simp, okTabs _ _, rfl, rfl⟩
end Go.Proofs.YtbneeinknlddaaaGreat
