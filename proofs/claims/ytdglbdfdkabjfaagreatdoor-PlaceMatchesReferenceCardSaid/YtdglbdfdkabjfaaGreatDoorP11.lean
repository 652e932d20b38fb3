/- Forms in plain words: repeats, endings, a jump, cuts; the bars in their order, visits. No program is in sight. Well-formed forms, cuts that are made and opened, in plain words. No program is in sight. Contracts by content: forms: repeats, endings, the jump, cuts.  Small rules: a value told otherwise, conversions, arguments told more closely, an array that is built. No statement is proved here. -/
import Derived.Test.YtdglbdfdkabjfaaGreatDoorP3
import Derived.Test.YtdglbdfdkabjfaaGreatDoorP7
import Derived.Test.YtdglbdfdkabjfaaGreatDoorP8
import Derived.Test.YtdglbdfdkabjfaaGreatDoorP9
import Derived.Test.YtdglbdfdkabjfaaGreatDoorP10
set_option linter.unusedVariables false
set_option linter.unusedSimpArgs false
namespace Go.Pl
structure PRep where
 from_ : Int
 until_ : Int
 times : Int
 deriving DecidableEq, Inhabited
structure PEnd where
 from_ : Int
 until_ : Int
 pass : Int
 deriving DecidableEq, Inhabited
structure PJmp where
 at_ : Int
 to : Int
 fine : Int
 deriving DecidableEq, Inhabited
structure PCut where
 from_ : Int
 until_ : Int
 pass : Int
 deriving DecidableEq, Inhabited
structure PForm where
 bars : Int
 reps : List PRep
 ends : List PEnd
 jump : PJmp
 cuts : List PCut
 deriving DecidableEq, Inhabited
structure PVis where
 bar : Int
 pass : Int
 deriving DecidableEq, Inhabited
def repsOk (bars : Int) : Int → List PRep → Bool
 | _, [] => true
 | last, r :: l => !(decide (r.from_ < last) || decide (r.until_ ≤ r.from_) || decide (bars < r.until_) || decide (r.times < 1) || decide (9 < r.times)) && repsOk bars r.until_ l
def insideR (l : List PRep) (a b : Int) : Bool := l.any fun r => decide (r.from_ ≤ a) && decide (b ≤ r.until_)
def withinR (l : List PRep) (bar : Int) : Bool := l.any fun r => decide (r.from_ < bar) && decide (bar < r.until_)
def playedE (l : List PEnd) (bar pass : Int) : Bool := l.all fun x => !(decide (x.from_ ≤ bar) && decide (bar < x.until_) && decide (x.pass ≠ pass))
def upTo (a b : Int) : List Int := (List.range (b - a).toNat).map fun (i : Nat) => a + (i : Int)
theorem upTo_nil {a b : Int} (h : b ≤ a) : upTo a b = [] := by
 unfold upTo
 rw [show (b - a).toNat = 0 by omega]; rfl
theorem upTo_cons {a b : Int} (h : a < b) : upTo a b = a :: upTo (a + 1) b := by
 unfold upTo
 obtain ⟨k, hk⟩ : ∃ k, (b - a).toNat = k + 1 := ⟨(b - a).toNat - 1, by omega⟩
 rw [hk, show (b - (a + 1)).toNat = k by omega, List.range_succ_eq_map, zBt, List.map_map]
 congr 1
 · simp
 · refine zDb fun i _ => ?_
   show a + ((i + 1 : Nat) : Int) = a + 1 + (i : Int)
   omega
def passL (f : PForm) (r : PRep) (pass : Int) : List Int := (upTo r.from_ r.until_).filter fun i => playedE f.ends i pass
def repL (f : PForm) (r : PRep) (all : Bool) : List Int := (upTo (if all then 1 else r.times) (r.times + 1)).flatMap (passL f r)
def startsR (l : List PRep) (bar : Int) : Option PRep := l.find? fun r => r.from_ == bar
def partF (f : PForm) (until_ : Int) (all : Bool) : Nat → Int → List Int
 | 0, _ => []
 | k + 1, bar => if bar < until_ then (match startsR f.reps bar with | none => bar :: partF f until_ all k (bar + 1) | some r => repL f r all ++ partF f until_ all k r.until_) else []
def partL (f : PForm) (from_ until_ : Int) (all : Bool) : List Int := partF f until_ all (until_ - from_).toNat from_
theorem partF_more {f : PForm} (h : ∀ r ∈ f.reps, r.from_ < r.until_) (u : Int) (all : Bool) : ∀ (k m : Nat) (bar : Int), (u - bar).toNat ≤ k → (u - bar).toNat ≤ m → partF f u all k bar = partF f u all m bar
 | 0, 0, _, _, _ => rfl
 | 0, m + 1, bar, h1, _ => by
   unfold partF
   rw [if_neg (by omega)]
 | k + 1, 0, bar, _, h2 => by
   unfold partF
   rw [if_neg (by omega)]
 | k + 1, m + 1, bar, h1, h2 => by
   unfold partF
   by_cases hb : bar < u
   · rw [if_pos hb, if_pos hb]
     cases hs : startsR f.reps bar with
     | none =>
       simp only
       rw [partF_more h u all k m (bar + 1) (by omega) (by omega)]
     | some r =>
       simp only
       have hr := h r (zB1 hs)
       have he : r.from_ = bar := by
        have := zCx hs
        simpa using this
       rw [partF_more h u all k m r.until_ (by omega) (by omega)]
   · rw [if_neg hb, if_neg hb]
theorem part_end {f : PForm} {a u : Int} (h : u ≤ a) (all : Bool) : partL f a u all = [] := by
 unfold partL
 rw [show (u - a).toNat = 0 by omega]; rfl
theorem part_bar {f : PForm} (h : ∀ r ∈ f.reps, r.from_ < r.until_) {a u : Int} (hl : a < u) (all : Bool) (hs : startsR f.reps a = none) : partL f a u all = a :: partL f (a + 1) u all := by
 unfold partL
 obtain ⟨k, hk⟩ : ∃ k, (u - a).toNat = k + 1 := ⟨(u - a).toNat - 1, by omega⟩
 rw [hk]
 show (if a < u then _ else _) = _
 rw [if_pos hl, hs]
 simp only
 rw [partF_more h u all k (u - (a + 1)).toNat (a + 1) (by omega) (zAh _)]
theorem part_rep {f : PForm} (h : ∀ r ∈ f.reps, r.from_ < r.until_) {a u : Int} (hl : a < u) (all : Bool) {r : PRep} (hs : startsR f.reps a = some r) : partL f a u all = repL f r all ++ partL f r.until_ u all := by
 have hr := h r (zB1 hs)
 have he : r.from_ = a := by
  have := zCx hs
  simpa using this
 unfold partL
 obtain ⟨k, hk⟩ : ∃ k, (u - a).toNat = k + 1 := ⟨(u - a).toNat - 1, by omega⟩
 rw [hk]
 show (if a < u then _ else _) = _
 rw [if_pos hl, hs]
 simp only
 rw [partF_more h u all k (u - r.until_).toNat r.until_ (by omega) (zAh _)]
def wholeL (f : PForm) : List Int := if f.jump.at_ = 0 then partL f 0 f.bars true ++ partL f f.jump.to f.jump.fine false else partL f 0 f.jump.at_ true ++ partL f f.jump.to f.jump.fine false
def visL (l : List Int) : List PVis := (List.range l.length).map fun i => ⟨l.getD i 0, ((l.take (i + 1)).count (l.getD i 0) : Int)⟩
def leaves (c : PCut) (v : PVis) : Bool := decide (c.from_ ≤ v.bar) && decide (v.bar < c.until_) && (decide (c.pass = 0) || decide (c.pass = v.pass))
def visits (f : PForm) : List PVis := (visL (wholeL f)).filter fun v => !(f.cuts.any fun c => leaves c v)
theorem visL_snoc (l : List Int) (b : Int) : visL (l ++ [b]) = visL l ++ [⟨b, (l.count b : Int) + 1⟩] := by
 unfold visL
 rw [zC0, zBw, List.range_succ, zC2]
 congr 1
 · refine zDb fun i hi => ?_
   have hi := zAu.1 hi
   have e1 : (l ++ [b]).getD i 0 = l.getD i 0 := by simp [List.getD, zA7 hi]
   rw [e1, zCu (by omega)]
 · have e1 : (l ++ [b]).getD l.length 0 = b := by simp [List.getD]
   rw [List.map_singleton, e1, zAi (by simp), List.count_append, List.count_singleton_self]
   simp
def endsOk (reps : List PRep) : Int → List PEnd → Bool
 | _, [] => true
 | last, x :: l => !(decide (x.from_ < last) || decide (x.until_ ≤ x.from_) || !insideR reps x.from_ x.until_ || decide (x.pass < 1) || decide (9 < x.pass)) && endsOk reps x.until_ l
def jumpOk (f : PForm) : Bool :=
 decide (f.jump = ⟨0, 0, 0⟩) ||
 (!(decide (f.jump.at_ < 1) || decide (f.bars < f.jump.at_) || decide (f.jump.to < 0) || decide (f.jump.at_ ≤ f.jump.to) || decide (f.jump.fine ≤ f.jump.to) || decide (f.bars < f.jump.fine)) &&
  (!withinR f.reps f.jump.at_ && !withinR f.reps f.jump.to && !withinR f.reps f.jump.fine))
def cutOk (bars : Int) (c : PCut) : Bool := decide (0 ≤ c.from_) && decide (c.from_ < c.until_) && decide (c.until_ ≤ bars) && decide (0 ≤ c.pass) && decide (c.pass ≤ 20)
def cutsOk (bars : Int) (l : List PCut) : Bool := l.all (cutOk bars) && decide l.Nodup
def formOk (f : PForm) : Bool :=
 decide (1 ≤ f.bars) && decide (f.bars ≤ 4000) && (repsOk f.bars 0 f.reps && decide (f.reps.length ≤ 100)) && (endsOk f.reps 0 f.ends && decide (f.ends.length ≤ 100)) && jumpOk f && (cutsOk f.bars f.cuts && decide (f.cuts.length ≤ 100)) && decide ((wholeL f).length ≤ 20000)
theorem reps_all {bars : Int} : ∀ {l : List PRep} {last : Int}, repsOk bars last l = true → ∀ r ∈ l, last ≤ r.from_ ∧ r.from_ < r.until_ ∧ r.until_ ≤ bars ∧ 1 ≤ r.times ∧ r.times ≤ 9
 | [], _, _, r, hr => by cases hr
 | x :: l, last, h, r, hr => by
   unfold repsOk at h
   simp only [zA0, zB8, zAk, dEf] at h
   obtain ⟨⟨⟨⟨⟨h1, h2⟩, h3⟩, h4⟩, h5⟩, h6⟩ := h
   rcases zB3.1 hr with rfl | hr
   · omega
   · have := reps_all h6 r hr; omega
def withCut (f : PForm) (c : PCut) : PForm := { f with cuts := f.cuts ++ [c] }
theorem partF_cut (f : PForm) (c : List PCut) (u : Int) (all : Bool) : ∀ (k : Nat) (bar : Int), partF { f with cuts := c } u all k bar = partF f u all k bar
 | 0, _ => rfl
 | k + 1, bar => by
   unfold partF
   split
   · show (match startsR f.reps bar with | none => bar :: partF { f with cuts := c } u all k (bar + 1) | some r => repL f r all ++ partF { f with cuts := c } u all k r.until_) = _
     cases startsR f.reps bar with
     | none => simp only; rw [partF_cut f c u all k]
     | some r => simp only; rw [partF_cut f c u all k]
   · rfl
theorem whole_cuts (f : PForm) (c : List PCut) : wholeL { f with cuts := c } = wholeL f := by
 unfold wholeL partL
 simp only [partF_cut]
theorem whole_cut (f : PForm) (c : PCut) : wholeL (withCut f c) = wholeL f := whole_cuts f _
theorem visits_cut (f : PForm) (c : PCut) : visits (withCut f c) = (visits f).filter fun v => !leaves c v := by
 unfold visits
 rw [whole_cut, List.filter_filter]
 refine List.filter_congr fun v _ => ?_
 show (!((f.cuts ++ [c]).any fun c => leaves c v)) = _
 rw [List.any_append, Bool.not_or]
 simp [Bool.and_comm]
theorem form_cut {f : PForm} {c : PCut} (h : formOk f = true) (hc : cutOk f.bars c = true) (hn : c ∉ f.cuts) (hl : f.cuts.length < 100) : formOk (withCut f c) = true := by
 unfold formOk at h ⊢
 simp only [zA0, dEt] at h ⊢
 obtain ⟨⟨⟨⟨⟨⟨h1, h2⟩, h3⟩, h4⟩, h5⟩, h6, h7⟩, h8⟩ := h
 refine ⟨⟨⟨⟨⟨⟨h1, h2⟩, h3⟩, h4⟩, h5⟩, ?_, ?_⟩, by rw [whole_cut]; exact h8⟩
 · unfold cutsOk at h6 ⊢
   simp only [zA0, dEt, zA6] at h6 ⊢
   refine ⟨fun x hx => ?_, ?_⟩
   · rcases zC1.1 hx with hx | hx
     · exact h6.1 x hx
     · rw [zAf.1 hx]; exact hc
   · show (f.cuts ++ [c]).Nodup
     rw [zCc]
     refine ⟨h6.2, by simp, fun a ha b hb => ?_⟩
     rw [zAf.1 hb]
     exact fun g => hn (g ▸ ha)
 · show (f.cuts ++ [c]).length ≤ 100
   rw [zC0, zBw]; omega
def openCut (f : PForm) (c : PCut) : PForm := { f with cuts := f.cuts.erase c }
theorem open_cut {f : PForm} {c : PCut} (hn : c ∉ f.cuts) : openCut (withCut f c) c = f := by
 unfold openCut withCut
 show { f with cuts := (f.cuts ++ [c]).erase c } = f
 rw [List.erase_append_right _ hn, List.erase_cons_head, zCy]
inductive Force where
 | yes
 | cut
 | never
 deriving DecidableEq
def force (f : PForm) (v : PVis) : Force := if v ∈ visits f then .yes else if v ∈ visL (wholeL f) then .cut else .never
theorem force_yes {f : PForm} {v : PVis} : force f v = .yes ↔ v ∈ visits f := by
 unfold force
 split
 · rename_i h; exact ⟨fun _ => h, fun _ => rfl⟩
 · rename_i h
   split <;> exact ⟨fun g => (nomatch g), fun g => absurd g h⟩
theorem force_cut {f : PForm} {c : PCut} {v : PVis} (h : force f v = .yes) : force (withCut f c) v = if leaves c v = true then .cut else .yes := by
 have hv := force_yes.1 h
 have hw : v ∈ visL (wholeL f) := by unfold visits at hv; exact (zBk.1 hv).1
 unfold force
 rw [visits_cut, whole_cut]
 by_cases hc : leaves c v = true
 · rw [if_pos hc, if_neg (by rw [zBk, hc]; simp), if_pos hw]
 · rw [if_neg hc, if_pos (zBk.2 ⟨hv, by simpa using hc⟩)]
theorem force_not {f : PForm} {c : PCut} {v : PVis} (h : force f v ≠ .yes) : force (withCut f c) v = force f v := by
 have hv : v ∉ visits f := fun g => h (force_yes.2 g)
 unfold force
 rw [visits_cut, whole_cut, if_neg hv, if_neg (fun g => hv (zBk.1 g).1)]
end Go.Pl
namespace Go.Ab
def ekC (c : Go.Pl.PCut) : Value := .agg #[.int .i64 c.from_, .int .i64 c.until_, .int .i64 c.pass]
def fieldsOf (P : Program) (t : TypeId) : Array Field := match P.underlying t with | some (.struct F) => F | _ => #[]
theorem keyLaw_three {P : Program} {kt e : TypeId} (hk : P.underlying kt = some (.struct (fieldsOf P kt))) (hF : (fieldsOf P kt).toList.map (fun f => (f.name == "_", f.type, f.offset)) = [(false, e, 0), (false, e, 1), (false, e, 2)]) (he : P.underlying e = some (.int .i64)) (hfe : flatT P 7 e = some [.int .i64]) (hf : flatT P 8 kt = some [.int .i64, .int .i64, .int .i64]) : KeyLaw P kt ekC where
 check w em k := by
  have hv : ∀ a : Value, valT P e [a] = a := fun a => by simp [valT, he, ltOf, LT.isAgg]
  have p0 := run_part hfe #[.int .i64 k.from_, .int .i64 k.until_, .int .i64 k.pass] 0 (by simp) w
  have p1 := run_part hfe #[.int .i64 k.from_, .int .i64 k.until_, .int .i64 k.pass] 1 (by simp) w
  have p2 := run_part hfe #[.int .i64 k.from_, .int .i64 k.until_, .int .i64 k.pass] 2 (by simp) w
  have q0 : (List.take [LT.int IntKind.i64].length (List.drop 0 (#[Value.int .i64 k.from_, Value.int .i64 k.until_, Value.int .i64 k.pass]).toList)) = [.int .i64 k.from_] := rfl
  have q1 : (List.take [LT.int IntKind.i64].length (List.drop 1 (#[Value.int .i64 k.from_, Value.int .i64 k.until_, Value.int .i64 k.pass]).toList)) = [.int .i64 k.until_] := rfl
  have q2 : (List.take [LT.int IntKind.i64].length (List.drop 2 (#[Value.int .i64 k.from_, Value.int .i64 k.until_, Value.int .i64 k.pass]).toList)) = [.int .i64 k.pass] := rfl
  rw [q0, hv] at p0
  rw [q1, hv] at p1
  rw [q2, hv] at p2
  have c : ∀ a, (Instr.checkKey em 9999 e (.int .i64 a)).run P w = .ok () w := fun a => by
   show (Instr.checkKey em (9998 + 1) e (.int .i64 a)).run P w = _
   rw [Instr.checkKey, Sem.run_bind, run_underlying he w]; rfl
  show (Instr.checkKey em (9999 + 1) kt (ekC k)).run P w = _
  unfold ekC
  rw [Instr.checkKey, Sem.run_bind, run_underlying hk w]
  simp only [Result.andThen_ok]
  generalize fieldsOf P kt = F at hF
  obtain ⟨L⟩ := F
  match L, hF with
  | [], hF => simp at hF
  | [_], hF => simp at hF
  | [_, _], hF => simp at hF
  | _ :: _ :: _ :: _ :: _, hF => simp at hF
  | [f0, f1, f2], hF =>
    simp only [zBt, List.map_nil, List.cons.injEq, Prod.mk.injEq, beq_eq_false_iff_ne, ne_eq, and_true] at hF
    obtain ⟨⟨n0, t0, o0⟩, ⟨n1, t1, o1⟩, n2, t2, o2⟩ := hF
    simp [Sem.run_bind, n0, n1, n2, t0, t1, t2, o0, o1, o2, p0, p1, p2, c, Result.andThen]
 find w k es ks h := by
  have heq : ∀ a b (w : World), (Op.equal kt (ekC a) (ekC b)).run P w = .ok (decide (b = a)) w := fun a b w => by
   have e := run_eqT w 8 kt _ hf 10000 (by decide) [.int .i64 a.from_, .int .i64 a.until_, .int .i64 a.pass] [.int .i64 b.from_, .int .i64 b.until_, .int .i64 b.pass] (decide (b = a)) (by
    obtain ⟨a1, a2, a3⟩ := a
    obtain ⟨b1, b2, b3⟩ := b
    have e1 : eqLs [LT.int IntKind.i64, LT.int IntKind.i64, LT.int IntKind.i64] [.int .i64 a1, .int .i64 a2, .int .i64 a3] [.int .i64 b1, .int .i64 b2, .int .i64 b3] = some (a1 == b1 && (a2 == b2 && (a3 == b3 && true))) := by simp [eqLs, eqV]
    rw [e1]
    congr 1
    rw [zAl]; simp
    exact ⟨fun ⟨h1, h2, h3⟩ => ⟨h1.symm, h2.symm, h3.symm⟩, fun ⟨h1, h2, h3⟩ => ⟨h1.symm, h2.symm, h3.symm⟩⟩)
   have hv : ∀ z : List Value, valT P kt z = .agg z.toArray := fun z => by simp [valT, hk, ltOf, LT.isAgg]
   rw [hv, hv] at e
   exact e
  unfold Instr.findKey
  rw [Sem.run_bind, run_underlying hk w]
  simp only [Result.andThen_ok]
  match es, ks, h with
  | [], [], _ => rfl
  | [], _ :: _, h => simp at h
  | _ :: _, [], h => simp at h
  | e0 :: es, x :: ks, h =>
    have hn : Instr.findNow (.struct (fieldsOf P kt)) (ekC k) (e0 :: es) 0 = none := rfl
    rw [hn]
    have := findAsking_find heq w k (e0 :: es) (x :: ks) 0 h
    simpa using this
 stays w k := by
  unfold Instr.keyThatStays
  have : Instr.sameBits 10000 (ekC k) (ekC k) = true := by
   show Instr.sameBits (9999 + 1) (ekC k) (ekC k) = true
   simp [Instr.sameBits, ekC]
  rw [if_pos this]; rfl
end Go.Ab
namespace Go.Proofs.YtdglbdfdkabjfaaGreatDoor.Pl
open Go.Ab Go.Pl
attribute [local irreducible] AWP AOps EStep AQ PStep PRun PCall TCall VCall
def encRp (r : PRep) : List AV := [.int r.from_, .int r.until_, .int r.times]
def encEn (x : PEnd) : List AV := [.int x.from_, .int x.until_, .int x.pass]
def encCt (c : PCut) : List AV := [.int c.from_, .int c.until_, .int c.pass]
def encF (f : PForm) : List AV := [.int f.bars, .sl 3 (f.reps.map encRp) .no, .sl 3 (f.ends.map encEn) .no, .int f.jump.at_, .int f.jump.to, .int f.jump.fine, .sl 3 (f.cuts.map encCt) .no]
structure FIn (f : PForm) : Prop where
 reps : f.reps.length ≤ 1000000000
 ends : f.ends.length ≤ 1000000000
 cuts : f.cuts.length ≤ 1000000000
theorem getD_in {α : Type} [Inhabited α] {l : List α} {k : Nat} (h : k < l.length) : l.getD k default ∈ l := by
 rw [show l.getD k default = l[k] by simp [List.getD, h]]; exact lGm h
theorem getD_at' {α : Type} [Inhabited α] {l : List α} {k : Nat} (h : k < l.length) : l.getD k default = l[k] := by simp [List.getD, h]
theorem findI_ge {α : Type} [Inhabited α] (p : α → Bool) (l : List α) : decide (findI p l ≥ 0) = l.any p := by
 have := Ed.findI_any p l
 rw [zAl]
 cases h : l.any p with
 | true =>
   have h2 : (l.all fun x => !p x) = false := by
    rw [Bool.eq_false_iff]; intro h3
    obtain ⟨x, hx, hp⟩ := zD8.1 h
    have := zA6.1 h3 x hx
    rw [hp] at this; cases this
   rw [h2] at this; simpa using this
 | false =>
   have h2 : (l.all fun x => !p x) = true := by
    rw [zA6]; intro x hx
    rw [List.any_eq_false] at h
    simpa using h x hx
   rw [h2] at this; simpa using this
theorem drop_at {α : Type} [Inhabited α] {l : List α} {k : Nat} (h : k < l.length) : l.drop k = l.getD k default :: l.drop (k + 1) := by
 rw [getD_at' h, zBf h]
theorem idxR_spec (l : List PRep) (fv : AV) (p : PRep → Bool) (hp : ∀ x ∈ l, FnCall Tryz.prog fv [.agg (encRp x)] (.b (p x))) (hl : l.length ≤ 1000000000) :
 PCall Tryz.prog 205 [.sl 3 (l.map encRp) .no, fv] (.int (findI p l)) := by
 refine PCall.bodyX [1] Tryz.func205 rfl rfl Tryz.ntmps205 rfl rfl ?_
 repeat' (first | refine aoQ rfl rfl rfl (fun hg => by first | exact std0 | exact std1) (by exact rfl) ?_ | refine sqW ?_ | refine rgK (fun K' hK => ?_) | (refine aoN (hK _ _ ?_); clear hK K') | refine blK ?_)
 refine lpW (ι := Nat) (fun k => [(0, .sl 3 (l.map encRp) .no), (1, .ext fv), (7, .int l.length), (8, .int k)]) (fun _ => []) (fun k => k ≤ l.length ∧ ∀ j, j < k → p (l.getD j default) = false) (fun k => l.length - k) 0 ⟨nZl _, fun j h => absurd h (by omega)⟩ ⟨rfl, rfl, rfl, rfl, tI⟩ rfl ?_
 rintro k ⟨hk, hall⟩
 by_cases hlt : k < l.length
 · repeat' (first | refine aoQ rfl rfl rfl (fun hg => by first | exact std0 | exact PRun.callV (hp _ (getD_in hlt)) rfl rfl nd rfl nds | exact std1) (by exact rfl) ?_ | refine sqW ?_ | refine rgK (fun K' hK => ?_) | (refine aoN (hK _ _ ?_); clear hK K') | refine cdN rfl tI (fun hc => ?_) (fun hc => ?_) | refine blK ?_ | refine exW ?_ | refine skW ?_ | refine rtW ?_)
   · refine ⟨.inr rfl, ?_⟩
     rw [show findI p l = k from findI_at hlt hc hall]
     exact fun _ _ h => h
   · exact ⟨k + 1, ⟨by omega, fun j hj => lt_succ_cases hall hc hj⟩, by omega, ⟨rfl, rfl, rfl, rfl, tI⟩, rfl⟩
   · exfalso; omega
 · repeat' (first | refine aoQ rfl rfl rfl (fun hg => by first | exact std0 | exact std1) (by exact rfl) ?_ | refine sqW ?_ | refine rgK (fun K' hK => ?_) | (refine aoN (hK _ _ ?_); clear hK K') | refine cdN rfl tI (fun hc => ?_) (fun hc => ?_) | refine blK ?_ | refine exW ?_ | refine skW ?_ | refine rtW ?_)
   · exfalso; omega
   · refine ⟨.inr rfl, ?_⟩
     rw [show findI p l = -1 from findI_no fun j hj => hall j (by omega)]
     exact fun _ _ h => h
theorem contR_spec (l : List PRep) (fv : AV) (p : PRep → Bool) (hp : ∀ x ∈ l, FnCall Tryz.prog fv [.agg (encRp x)] (.b (p x))) (hl : l.length ≤ 1000000000) :
 PCall Tryz.prog 178 [.sl 3 (l.map encRp) .no, fv] (.b (l.any p)) := by
 rw [← findI_ge]
 refine PCall.bodyX [1] Tryz.func178 rfl rfl Tryz.ntmps178 rfl rfl ?_
 repeat' (first | refine aoQ rfl rfl rfl (fun hg => by first | exact std0 | exact pcW (idxR_spec l fv p hp hl) rfl rfl nd rfl nds) (by exact rfl) ?_ | refine sqW ?_ | refine rgK (fun K' hK => ?_) | (refine aoN (hK _ _ ?_); clear hK K') | refine rtW ?_)
 exact ⟨.inr rfl, fun _ _ h => h⟩
theorem idxE_spec (l : List PEnd) (fv : AV) (p : PEnd → Bool) (hp : ∀ x ∈ l, FnCall Tryz.prog fv [.agg (encEn x)] (.b (p x))) (hl : l.length ≤ 1000000000) :
 PCall Tryz.prog 234 [.sl 3 (l.map encEn) .no, fv] (.int (findI p l)) := by
 refine PCall.bodyX [1] Tryz.func234 rfl rfl Tryz.ntmps234 rfl rfl ?_
 repeat' (first | refine aoQ rfl rfl rfl (fun hg => by first | exact std0 | exact std1) (by exact rfl) ?_ | refine sqW ?_ | refine rgK (fun K' hK => ?_) | (refine aoN (hK _ _ ?_); clear hK K') | refine blK ?_)
 refine lpW (ι := Nat) (fun k => [(0, .sl 3 (l.map encEn) .no), (1, .ext fv), (7, .int l.length), (8, .int k)]) (fun _ => []) (fun k => k ≤ l.length ∧ ∀ j, j < k → p (l.getD j default) = false) (fun k => l.length - k) 0 ⟨nZl _, fun j h => absurd h (by omega)⟩ ⟨rfl, rfl, rfl, rfl, tI⟩ rfl ?_
 rintro k ⟨hk, hall⟩
 by_cases hlt : k < l.length
 · repeat' (first | refine aoQ rfl rfl rfl (fun hg => by first | exact std0 | exact PRun.callV (hp _ (getD_in hlt)) rfl rfl nd rfl nds | exact std1) (by exact rfl) ?_ | refine sqW ?_ | refine rgK (fun K' hK => ?_) | (refine aoN (hK _ _ ?_); clear hK K') | refine cdN rfl tI (fun hc => ?_) (fun hc => ?_) | refine blK ?_ | refine exW ?_ | refine skW ?_ | refine rtW ?_)
   · refine ⟨.inr rfl, ?_⟩
     rw [show findI p l = k from findI_at hlt hc hall]
     exact fun _ _ h => h
   · exact ⟨k + 1, ⟨by omega, fun j hj => lt_succ_cases hall hc hj⟩, by omega, ⟨rfl, rfl, rfl, rfl, tI⟩, rfl⟩
   · exfalso; omega
 · repeat' (first | refine aoQ rfl rfl rfl (fun hg => by first | exact std0 | exact std1) (by exact rfl) ?_ | refine sqW ?_ | refine rgK (fun K' hK => ?_) | (refine aoN (hK _ _ ?_); clear hK K') | refine cdN rfl tI (fun hc => ?_) (fun hc => ?_) | refine blK ?_ | refine exW ?_ | refine skW ?_ | refine rtW ?_)
   · exfalso; omega
   · refine ⟨.inr rfl, ?_⟩
     rw [show findI p l = -1 from findI_no fun j hj => hall j (by omega)]
     exact fun _ _ h => h
theorem contE_spec (l : List PEnd) (fv : AV) (p : PEnd → Bool) (hp : ∀ x ∈ l, FnCall Tryz.prog fv [.agg (encEn x)] (.b (p x))) (hl : l.length ≤ 1000000000) :
 PCall Tryz.prog 226 [.sl 3 (l.map encEn) .no, fv] (.b (l.any p)) := by
 rw [← findI_ge]
 refine PCall.bodyX [1] Tryz.func226 rfl rfl Tryz.ntmps226 rfl rfl ?_
 repeat' (first | refine aoQ rfl rfl rfl (fun hg => by first | exact std0 | exact pcW (idxE_spec l fv p hp hl) rfl rfl nd rfl nds) (by exact rfl) ?_ | refine sqW ?_ | refine rgK (fun K' hK => ?_) | (refine aoN (hK _ _ ?_); clear hK K') | refine rtW ?_)
 exact ⟨.inr rfl, fun _ _ h => h⟩
theorem idxC_spec (l : List PCut) (fv : AV) (p : PCut → Bool) (hp : ∀ x ∈ l, FnCall Tryz.prog fv [.agg (encCt x)] (.b (p x))) (hl : l.length ≤ 1000000000) :
 PCall Tryz.prog 171 [.sl 3 (l.map encCt) .no, fv] (.int (findI p l)) := by
 refine PCall.bodyX [1] Tryz.func171 rfl rfl Tryz.ntmps171 rfl rfl ?_
 repeat' (first | refine aoQ rfl rfl rfl (fun hg => by first | exact std0 | exact std1) (by exact rfl) ?_ | refine sqW ?_ | refine rgK (fun K' hK => ?_) | (refine aoN (hK _ _ ?_); clear hK K') | refine blK ?_)
 refine lpW (ι := Nat) (fun k => [(0, .sl 3 (l.map encCt) .no), (1, .ext fv), (7, .int l.length), (8, .int k)]) (fun _ => []) (fun k => k ≤ l.length ∧ ∀ j, j < k → p (l.getD j default) = false) (fun k => l.length - k) 0 ⟨nZl _, fun j h => absurd h (by omega)⟩ ⟨rfl, rfl, rfl, rfl, tI⟩ rfl ?_
 rintro k ⟨hk, hall⟩
 by_cases hlt : k < l.length
 · repeat' (first | refine aoQ rfl rfl rfl (fun hg => by first | exact std0 | exact PRun.callV (hp _ (getD_in hlt)) rfl rfl nd rfl nds | exact std1) (by exact rfl) ?_ | refine sqW ?_ | refine rgK (fun K' hK => ?_) | (refine aoN (hK _ _ ?_); clear hK K') | refine cdN rfl tI (fun hc => ?_) (fun hc => ?_) | refine blK ?_ | refine exW ?_ | refine skW ?_ | refine rtW ?_)
   · refine ⟨.inr rfl, ?_⟩
     rw [show findI p l = k from findI_at hlt hc hall]
     exact fun _ _ h => h
   · exact ⟨k + 1, ⟨by omega, fun j hj => lt_succ_cases hall hc hj⟩, by omega, ⟨rfl, rfl, rfl, rfl, tI⟩, rfl⟩
   · exfalso; omega
 · repeat' (first | refine aoQ rfl rfl rfl (fun hg => by first | exact std0 | exact std1) (by exact rfl) ?_ | refine sqW ?_ | refine rgK (fun K' hK => ?_) | (refine aoN (hK _ _ ?_); clear hK K') | refine cdN rfl tI (fun hc => ?_) (fun hc => ?_) | refine blK ?_ | refine exW ?_ | refine skW ?_ | refine rtW ?_)
   · exfalso; omega
   · refine ⟨.inr rfl, ?_⟩
     rw [show findI p l = -1 from findI_no fun j hj => hall j (by omega)]
     exact fun _ _ h => h
theorem contC_spec (l : List PCut) (fv : AV) (p : PCut → Bool) (hp : ∀ x ∈ l, FnCall Tryz.prog fv [.agg (encCt x)] (.b (p x))) (hl : l.length ≤ 1000000000) :
 PCall Tryz.prog 124 [.sl 3 (l.map encCt) .no, fv] (.b (l.any p)) := by
 rw [← findI_ge]
 refine PCall.bodyX [1] Tryz.func124 rfl rfl Tryz.ntmps124 rfl rfl ?_
 repeat' (first | refine aoQ rfl rfl rfl (fun hg => by first | exact std0 | exact pcW (idxC_spec l fv p hp hl) rfl rfl nd rfl nds) (by exact rfl) ?_ | refine sqW ?_ | refine rgK (fun K' hK => ?_) | (refine aoN (hK _ _ ?_); clear hK K') | refine rtW ?_)
 exact ⟨.inr rfl, fun _ _ h => h⟩
theorem within1_spec (r : PRep) (bar : Int) : PCall Tryz.prog 209 [.agg (encRp r), .iptr [.int bar]] (.b (decide (r.from_ < bar) && decide (bar < r.until_))) := by
 refine PCall.body Tryz.func209 rfl rfl Tryz.ntmps209 rfl rfl ?_
 repeat' (first | refine aoQ rfl rfl rfl (fun hg => by exact std0) (by exact rfl) ?_ | refine sqW ?_ | refine rgK (fun K' hK => ?_) | (refine aoN (hK _ _ ?_); clear hK K') | refine aoE (bxW rfl rfl rfl rfl rfl tI rfl rfl ?_) | refine rtW ?_)
 exact ⟨.inr rfl, Ent.b rfl⟩
theorem isWithin_spec (f : PForm) (hf : FIn f) (bar : Int) : PCall Tryz.prog 180 [.agg (encF f), .int bar] (.b (withinR f.reps bar)) := by
 have h1 := contR_spec f.reps (.fn (.func 209) [] [.iptr [.int bar]]) (fun r => decide (r.from_ < bar) && decide (bar < r.until_)) (fun x _ => ⟨_, [], _, rfl, within1_spec x bar⟩) hf.reps
 refine PCall.body Tryz.func180 rfl rfl Tryz.ntmps180 rfl rfl ?_
 repeat' (first | refine aoQ rfl rfl rfl (fun hg => by first | exact std0 | exact pbW (h1) rfl rfl nd rfl rfl nds) (by exact rfl) ?_ | refine sqW ?_ | refine rgK (fun K' hK => ?_) | (refine aoN (hK _ _ ?_); clear hK K') | refine aoE (bxW rfl rfl rfl rfl rfl tI rfl rfl ?_) | refine rtW ?_)
 exact ⟨.inr rfl, Ent.b rfl⟩
def lastR (l : List PRep) : Nat → Int
 | 0 => 0
 | k + 1 => (l.getD k default).until_
theorem areRepeats_spec (f : PForm) (hf : FIn f) : PCall Tryz.prog 135 [.agg (encF f)] (.b (repsOk f.bars 0 f.reps && decide (f.reps.length ≤ 100))) := by
 have hl := hf.reps
 refine PCall.body Tryz.func135 rfl rfl Tryz.ntmps135 rfl rfl ?_
 repeat' (first | refine aoQ rfl rfl rfl (fun hg => by first | exact std0 | exact std1) (by exact rfl) ?_ | refine sqW ?_ | refine rgK (fun K' hK => ?_) | (refine aoN (hK _ _ ?_); clear hK K') | refine aoE (bxW rfl rfl rfl rfl rfl tI rfl rfl ?_) | refine blK ?_)
 refine lpD (ι := Nat) (fun k => [(1, .ptr 0 0), (3, .int (lastR f.reps k)), (8, .sl 3 (f.reps.map encRp) .no), (9, .int f.reps.length), (10, .int k)]) (fun _ => [.var (encF f)])
  (fun k => k ≤ f.reps.length ∧ repsOk f.bars 0 f.reps = repsOk f.bars (lastR f.reps k) (f.reps.drop k)) (fun k => f.reps.length - k) 1 (fun _ => rfl) 0 ⟨nZl _, rfl⟩ ⟨rfl, rfl, rfl, rfl, rfl, tI⟩ rfl (fun _ _ => rfl) (fun _ _ => rfl) ?_
 rintro k ⟨hk, hinv⟩
 by_cases hlt : k < f.reps.length
 · have e1 : repsOk f.bars (lastR f.reps k) (f.reps.drop k) = (!(decide ((f.reps.getD k default).from_ < lastR f.reps k) || decide ((f.reps.getD k default).until_ ≤ (f.reps.getD k default).from_) || decide (f.bars < (f.reps.getD k default).until_) || decide ((f.reps.getD k default).times < 1) || decide (9 < (f.reps.getD k default).times)) && repsOk f.bars (lastR f.reps (k + 1)) (f.reps.drop (k + 1))) := by
    rw [drop_at hlt]; rfl
   repeat' (first | refine aoQ rfl rfl rfl (fun hg => by first | exact std0 | exact std1) (by exact rfl) ?_ | refine sqW ?_ | refine rgK (fun K' hK => ?_) | (refine aoN (hK _ _ ?_); clear hK K') | refine aoE (stW tabOk rfl rfl rfl tI rfl rfl tI rfl rfl rfl rfl rfl rfl rfl ?_) | refine aoE (alW tabOk rfl rfl rfl rfl rfl rfl ?_) | refine cdN rfl tI (fun hc => ?_) (fun hc => ?_) | refine blK ?_ | refine exW ?_ | refine skW ?_ | refine rtW ?_)
   all_goals first | (exfalso; omega) | skip
   · refine ⟨.inr rfl, Ent.b ?_⟩
     rw [zAa] at hc
     have hc2 : (decide ((f.reps.getD k default).from_ < lastR f.reps k) || decide ((f.reps.getD k default).until_ ≤ (f.reps.getD k default).from_) || decide (f.bars < (f.reps.getD k default).until_) || decide ((f.reps.getD k default).times < 1) || decide (9 < (f.reps.getD k default).times)) = true := hc
     rw [hinv, e1, hc2]; rfl
   · rw [zAa] at hc
     have hc2 : (decide ((f.reps.getD k default).from_ < lastR f.reps k) || decide ((f.reps.getD k default).until_ ≤ (f.reps.getD k default).from_) || decide (f.bars < (f.reps.getD k default).until_) || decide ((f.reps.getD k default).times < 1) || decide (9 < (f.reps.getD k default).times)) = false := hc
     rw [hc2, Bool.not_false, zBd] at e1
     exact ⟨k + 1, ⟨by omega, hinv.trans e1⟩, by omega, ⟨rfl, rfl, rfl, rfl, rfl, tI⟩, rfl⟩
 · repeat' (first | refine aoQ rfl rfl rfl (fun hg => by first | exact std0 | exact std1) (by exact rfl) ?_ | refine sqW ?_ | refine rgK (fun K' hK => ?_) | (refine aoN (hK _ _ ?_); clear hK K') | refine aoE (stW tabOk rfl rfl rfl tI rfl rfl tI rfl rfl rfl rfl rfl rfl rfl ?_) | refine aoE (alW tabOk rfl rfl rfl rfl rfl rfl ?_) | refine cdN rfl tI (fun hc => ?_) (fun hc => ?_) | refine blK ?_ | refine exW ?_ | refine skW ?_ | refine rtW ?_)
   all_goals first | (exfalso; omega) | skip
   refine ⟨.inr rfl, Ent.b ?_⟩
   rw [hinv, zB9 (by omega)]
   show _ = (true && _)
   rw [zBd, zAl]; simp; omega
theorem ends1_spec (r : PRep) (x : PEnd) : PCall Tryz.prog 179 [.agg (encRp r), .iptr (encEn x)] (.b (decide (r.from_ ≤ x.from_) && decide (x.until_ ≤ r.until_))) := by
 refine PCall.body Tryz.func179 rfl rfl Tryz.ntmps179 rfl rfl ?_
 repeat' (first | refine aoQ rfl rfl rfl (fun hg => by exact std0) (by exact rfl) ?_ | refine sqW ?_ | refine rgK (fun K' hK => ?_) | (refine aoN (hK _ _ ?_); clear hK K') | refine aoE (bxW rfl rfl rfl rfl rfl tI rfl rfl ?_) | refine rtW ?_)
 exact ⟨.inr rfl, Ent.b rfl⟩
def lastE (l : List PEnd) : Nat → Int
 | 0 => 0
 | k + 1 => (l.getD k default).until_
theorem areEndings_spec (f : PForm) (hf : FIn f) : PCall Tryz.prog 136 [.agg (encF f)] (.b (endsOk f.reps 0 f.ends && decide (f.ends.length ≤ 100))) := by
 have hl := hf.ends
 refine PCall.body Tryz.func136 rfl rfl Tryz.ntmps136 rfl rfl ?_
 repeat' (first | refine aoQ rfl rfl rfl (fun hg => by first | exact std0 | exact std1) (by exact rfl) ?_ | refine sqW ?_ | refine rgK (fun K' hK => ?_) | (refine aoN (hK _ _ ?_); clear hK K') | refine aoE (bxW rfl rfl rfl rfl rfl tI rfl rfl ?_) | refine blK ?_)
 refine lpD (ι := Nat) (fun k => [(1, .ptr 0 0), (3, .int (lastE f.ends k)), (9, .sl 3 (f.ends.map encEn) .no), (10, .int f.ends.length), (11, .int k)]) (fun _ => [.var (encF f)])
  (fun k => k ≤ f.ends.length ∧ endsOk f.reps 0 f.ends = endsOk f.reps (lastE f.ends k) (f.ends.drop k)) (fun k => f.ends.length - k) 1 (fun _ => rfl) 0 ⟨nZl _, rfl⟩ ⟨rfl, rfl, rfl, rfl, rfl, tI⟩ rfl (fun _ _ => rfl) (fun _ _ => rfl) ?_
 rintro k ⟨hk, hinv⟩
 by_cases hlt : k < f.ends.length
 · have e1 : endsOk f.reps (lastE f.ends k) (f.ends.drop k) = (!(decide ((f.ends.getD k default).from_ < lastE f.ends k) || decide ((f.ends.getD k default).until_ ≤ (f.ends.getD k default).from_) || !insideR f.reps (f.ends.getD k default).from_ (f.ends.getD k default).until_ || decide ((f.ends.getD k default).pass < 1) || decide (9 < (f.ends.getD k default).pass)) && endsOk f.reps (lastE f.ends (k + 1)) (f.ends.drop (k + 1))) := by
    rw [drop_at hlt]; rfl
   have h1 := contR_spec f.reps (.fn (.func 179) [] [.iptr (encEn (f.ends.getD k default))]) (fun r => decide (r.from_ ≤ (f.ends.getD k default).from_) && decide ((f.ends.getD k default).until_ ≤ r.until_)) (fun x _ => ⟨_, [], _, rfl, ends1_spec x _⟩) hf.reps
   change PCall _ _ _ (.b (insideR f.reps (f.ends.getD k default).from_ (f.ends.getD k default).until_)) at h1
   repeat' (first | refine aoQ rfl rfl rfl (fun hg => by first | exact std0 | exact pbW (h1) rfl rfl nd rfl rfl nds | exact std1) (by exact rfl) ?_ | refine sqW ?_ | refine rgK (fun K' hK => ?_) | (refine aoN (hK _ _ ?_); clear hK K') | refine aoE (stW tabOk rfl rfl rfl tI rfl rfl tI rfl rfl rfl rfl rfl rfl rfl ?_) | refine aoE (alW tabOk rfl rfl rfl rfl rfl rfl ?_) | refine cdN rfl tI (fun hc => ?_) (fun hc => ?_) | refine blK ?_ | refine exW ?_ | refine skW ?_ | refine rtW ?_)
   all_goals first | (exfalso; omega) | skip
   · refine ⟨.inr rfl, Ent.b ?_⟩
     have hc2 : (decide ((f.ends.getD k default).from_ < lastE f.ends k) || decide ((f.ends.getD k default).until_ ≤ (f.ends.getD k default).from_) || !insideR f.reps (f.ends.getD k default).from_ (f.ends.getD k default).until_ || decide ((f.ends.getD k default).pass < 1) || decide (9 < (f.ends.getD k default).pass)) = true := hc
     rw [hinv, e1, hc2]; rfl
   · have hc2 : (decide ((f.ends.getD k default).from_ < lastE f.ends k) || decide ((f.ends.getD k default).until_ ≤ (f.ends.getD k default).from_) || !insideR f.reps (f.ends.getD k default).from_ (f.ends.getD k default).until_ || decide ((f.ends.getD k default).pass < 1) || decide (9 < (f.ends.getD k default).pass)) = false := hc
     rw [hc2, Bool.not_false, zBd] at e1
     exact ⟨k + 1, ⟨by omega, hinv.trans e1⟩, by omega, ⟨rfl, rfl, rfl, rfl, rfl, tI⟩, rfl⟩
 · repeat' (first | refine aoQ rfl rfl rfl (fun hg => by first | exact std0 | exact std1) (by exact rfl) ?_ | refine sqW ?_ | refine rgK (fun K' hK => ?_) | (refine aoN (hK _ _ ?_); clear hK K') | refine aoE (stW tabOk rfl rfl rfl tI rfl rfl tI rfl rfl rfl rfl rfl rfl rfl ?_) | refine aoE (alW tabOk rfl rfl rfl rfl rfl rfl ?_) | refine cdN rfl tI (fun hc => ?_) (fun hc => ?_) | refine blK ?_ | refine exW ?_ | refine skW ?_ | refine rtW ?_)
   all_goals first | (exfalso; omega) | skip
   refine ⟨.inr rfl, Ent.b ?_⟩
   rw [hinv, zB9 (by omega)]
   show _ = (true && _)
   rw [zBd, zAl]; simp; omega
theorem ending1_spec (x : PEnd) (bar pass : Int) : PCall Tryz.prog 227 [.agg (encEn x), .iptr [.int bar], .iptr [.int pass]] (.b (decide (x.from_ ≤ bar) && decide (bar < x.until_) && !(x.pass == pass))) := by
 refine PCall.body Tryz.func227 rfl rfl Tryz.ntmps227 rfl rfl ?_
 repeat' (first | refine aoQ rfl rfl rfl (fun hg => by exact std0) (by exact rfl) ?_ | refine sqW ?_ | refine rgK (fun K' hK => ?_) | (refine aoN (hK _ _ ?_); clear hK K') | refine aoE (bxW rfl rfl rfl rfl rfl tI rfl rfl ?_) | refine rtW ?_)
 exact ⟨.inr rfl, Ent.b rfl⟩
theorem not_played (l : List PEnd) (bar pass : Int) : l.any (fun x => decide (x.from_ ≤ bar) && decide (bar < x.until_) && !(x.pass == pass)) = !playedE l bar pass := by
 unfold playedE
 induction l with
 | nil => rfl
 | cons x l ih =>
   rw [List.any_cons, zCe, Bool.not_and, Bool.not_not, ih]
   congr 1
   congr 1
   rw [zAl]; simp
theorem isEnding_spec (f : PForm) (hf : FIn f) (bar pass : Int) : PCall Tryz.prog 207 [.agg (encF f), .int bar, .int pass] (.b (!playedE f.ends bar pass)) := by
 have h1 := contE_spec f.ends (.fn (.func 227) [] [.iptr [.int bar], .iptr [.int pass]]) (fun x => decide (x.from_ ≤ bar) && decide (bar < x.until_) && !(x.pass == pass)) (fun x _ => ⟨_, [], _, rfl, ending1_spec x bar pass⟩) hf.ends
 rw [not_played] at h1
 refine PCall.body Tryz.func207 rfl rfl Tryz.ntmps207 rfl rfl ?_
 repeat' (first | refine aoQ rfl rfl rfl (fun hg => by first | exact std0 | exact pbW (h1) rfl rfl nd rfl rfl nds) (by exact rfl) ?_ | refine sqW ?_ | refine rgK (fun K' hK => ?_) | (refine aoN (hK _ _ ?_); clear hK K') | refine aoE (bxW rfl rfl rfl rfl rfl tI rfl rfl ?_) | refine rtW ?_)
 exact ⟨.inr rfl, Ent.b rfl⟩
theorem flJ : flatOf Tryz.prog 34 = some [.int .i64, .int .i64, .int .i64] := by kernel_rfl
theorem isJump_spec (f : PForm) (hf : FIn f) : PCall Tryz.prog 137 [.agg (encF f)] (.b (jumpOk f)) := by
 have w := isWithin_spec f hf
 refine PCall.body Tryz.func137 rfl rfl Tryz.ntmps137 rfl rfl ?_
 have hj0 : (f.jump.at_ == 0 && (f.jump.to == 0 && (f.jump.fine == 0 && true))) = decide (f.jump = ⟨0, 0, 0⟩) := by
  rw [zAl]
  obtain ⟨a, b, c⟩ := f.jump
  simp
 repeat' (first | refine aoQ rfl rfl rfl (fun hg => by first | exact std0 | exact pcW (w _) rfl rfl nd rfl nds | exact pbD tabOk rfl rfl nds | exact PRun.eqS flJ rfl rfl nd rfl nd rfl) (by exact rfl) ?_ | refine sqW ?_ | refine rgK (fun K' hK => ?_) | (refine aoN (hK _ _ ?_); clear hK K') | refine aoE (bxW rfl rfl rfl rfl rfl tI rfl rfl ?_) | refine aoE (stW tabOk rfl rfl rfl tI rfl rfl tI rfl rfl rfl rfl rfl rfl rfl ?_) | refine aoE (alW tabOk rfl rfl rfl rfl rfl rfl ?_) | refine cdN rfl tI (fun hc => ?_) (fun hc => ?_) | refine skW ?_ | refine rtW ?_)
 · refine ⟨.inr rfl, Ent.b ?_⟩
   unfold jumpOk
   rw [← hj0, hc]; rfl
 · rename_i hc0
   refine ⟨.inr rfl, Ent.b ?_⟩
   have hc2 : (decide (f.jump.at_ < 1) || decide (f.bars < f.jump.at_) || decide (f.jump.to < 0) || decide (f.jump.at_ ≤ f.jump.to) || decide (f.jump.fine ≤ f.jump.to) || decide (f.bars < f.jump.fine)) = true := hc
   unfold jumpOk
   rw [← hj0, hc0, hc2]; rfl
 · rename_i hc0
   refine ⟨.inr rfl, Ent.b ?_⟩
   have hc2 : (decide (f.jump.at_ < 1) || decide (f.bars < f.jump.at_) || decide (f.jump.to < 0) || decide (f.jump.at_ ≤ f.jump.to) || decide (f.jump.fine ≤ f.jump.to) || decide (f.bars < f.jump.fine)) = false := hc
   unfold jumpOk
   rw [← hj0, hc0, hc2]; rfl
theorem isCut_spec (f : PForm) (c : PCut) : PCall Tryz.prog 84 [.agg (encF f), .agg (encCt c)] (.b (cutOk f.bars c)) := by
 refine PCall.body Tryz.func84 rfl rfl Tryz.ntmps84 rfl rfl ?_
 repeat' (first | refine aoQ rfl rfl rfl (fun hg => by exact std0) (by exact rfl) ?_ | refine sqW ?_ | refine rgK (fun K' hK => ?_) | (refine aoN (hK _ _ ?_); clear hK K') | refine aoE (bxW rfl rfl rfl rfl rfl tI rfl rfl ?_) | refine rtW ?_)
 exact ⟨.inr rfl, Ent.b rfl⟩
theorem cutKey : KeyLaw Tryz.prog 83 ekC := keyLaw_three (e := 3) (by kernel_rfl) (by kernel_rfl) (by kernel_rfl) (by kernel_rfl) (by kernel_rfl)
def seenC (l : List PCut) : List (PCut × Bool) := l.map fun c => (c, true)
theorem lk_seenC (l : List PCut) (c : PCut) : (lk (seenC l) c).getD false = decide (c ∈ l) := by
 induction l with
 | nil => rfl
 | cons x l ih =>
   show (lk ((x, true) :: seenC l) c).getD false = _
   simp only [lk]
   by_cases h : x = c
   · subst h; simp
   · rw [if_neg h, ih, zAl]; simp [Ne.symm h, fun e : c = x => h e.symm]
theorem areCuts_spec (f : PForm) (hf : FIn f) : PCall Tryz.prog 138 [.agg (encF f)] (.b (cutsOk f.bars f.cuts && decide (f.cuts.length ≤ 100))) := by
 have hl := hf.cuts
 refine PCall.body Tryz.func138 rfl rfl Tryz.ntmps138 rfl rfl ?_
 repeat' (first | refine aoQ rfl rfl rfl (fun hg => by first | exact std0 | exact std1) (by exact rfl) ?_ | refine sqW ?_ | refine rgK (fun K' hK => ?_) | (refine aoN (hK _ _ ?_); clear hK K') | refine aoE (bxW rfl rfl rfl rfl rfl tI rfl rfl ?_) | refine aoE (EStep.makeMapW rfl rfl rfl rfl ?_) | refine blK ?_)
 refine lpD (ι := Nat) (fun k => [(1, .ptr 0 0), (3, .map 1), (9, .sl 3 (f.cuts.map encCt) .no), (10, .int f.cuts.length), (11, .int k)]) (fun k => [.var (encF f), .map (encM ekC AV.b (seenC (f.cuts.take k)))])
  (fun k => k ≤ f.cuts.length ∧ (∀ j, j < k → cutOk f.bars (f.cuts.getD j default) = true) ∧ (f.cuts.take k).Nodup) (fun k => f.cuts.length - k) 2 (fun _ => rfl) 0 ⟨nZl _, fun j h => absurd h (by omega), by simp⟩ ⟨rfl, rfl, rfl, rfl, rfl, tI⟩ rfl (fun _ _ => rfl) (fun k _ => by simp [okObj, encM, okRef, encF]) ?_
 rintro k ⟨hk, hall, hnd⟩
 by_cases hlt : k < f.cuts.length
 · have hs := lk_seenC (f.cuts.take k) (f.cuts.getD k default)
   have w := isCut_spec f (f.cuts.getD k default)
   have hm := getD_in hlt
   repeat' (first | refine aoQ rfl rfl rfl (fun hg => by first | exact std0 | exact pcW (w) rfl rfl nd rfl nds | exact PRun.lookup (ek := ekC) (ev := AV.b) (zv := false) cutKey (LOk.of (tabOk.get rfl)) (LOk.of (tabOk.get rfl)) rfl rfl (Rd.w rfl nd) (Or.inr ⟨_, rfl, rfl⟩) (Rd.w rfl nd) rfl | exact std1) (by exact rfl) ?_ | refine sqW ?_ | refine rgK (fun K' hK => ?_) | (refine aoN (hK _ _ ?_); clear hK K') | refine aoE (stW tabOk rfl rfl rfl tI rfl rfl tI rfl rfl rfl rfl rfl rfl rfl ?_) | refine aoE (alW tabOk rfl rfl rfl rfl rfl rfl ?_) | refine aoE (EStep.mapUpd (ek := ekC) (ev := AV.b) (v := true) cutKey (LOk.of (tabOk.get rfl)) rfl rfl rfl (Rd.w rfl tI) rfl (Rd.w rfl tI) rfl (Rd.w rfl tI) ?_) | refine cdN rfl tI (fun hc => ?_) (fun hc => ?_) | refine blK ?_ | refine exW ?_ | refine skW ?_ | refine rtW ?_)
   all_goals first | (exfalso; omega) | skip
   · refine ⟨.inr rfl, Ent.b (Eq.symm ?_)⟩
     rw [zAa, hs] at hc
     rw [zD3]; left
     cases h1 : cutsOk f.bars f.cuts with
     | false => rfl
     | true =>
       exfalso
       unfold cutsOk at h1
       simp only [zA0, zA6, dEt] at h1
       rw [h1.1 _ hm] at hc
       have h2 : f.cuts.getD k default ∈ f.cuts.take k := by simpa using hc
       have h3 := h1.2
       rw [← zD2 k f.cuts, drop_at hlt, zCc] at h3
       exact h3.2.2 _ h2 _ (zAt ..) rfl
   · rw [zAa, hs] at hc
     simp only [zAk, zB7, dEf] at hc
     have e1 : f.cuts.take (k + 1) = f.cuts.take k ++ [f.cuts.getD k default] := by
      rw [zBi, zA1 hlt, getD_at' hlt]; rfl
     have e2 : ins (seenC (f.cuts.take k)) (f.cuts.getD k default) true = seenC (f.cuts.take (k + 1)) := by
      rw [e1, ins_new]
      · unfold seenC; rw [zC2]; rfl
      · unfold seenC
        rw [List.map_map]
        intro h
        obtain ⟨x, hx, e⟩ := zB4.1 h
        have e : x = f.cuts.getD k default := e
        exact hc.2 (e ▸ hx)
     refine ⟨k + 1, ⟨by omega, fun j hj => lt_succ_cases hall hc.1 hj, ?_⟩, by omega, ⟨rfl, rfl, rfl, rfl, rfl, tI⟩, ?_⟩
     · rw [e1, zCc]
       exact ⟨hnd, by simp, fun a ha b hb e => by rw [zAf.1 hb] at e; exact hc.2 (e ▸ ha)⟩
     · rw [zAa]
       show [AObj.var (encF f), AObj.map (encM ekC AV.b (ins (seenC (f.cuts.take k)) (f.cuts.getD k default) true))] = _
       rw [e2]
 · repeat' (first | refine aoQ rfl rfl rfl (fun hg => by first | exact std0 | exact std1) (by exact rfl) ?_ | refine sqW ?_ | refine rgK (fun K' hK => ?_) | (refine aoN (hK _ _ ?_); clear hK K') | refine aoE (stW tabOk rfl rfl rfl tI rfl rfl tI rfl rfl rfl rfl rfl rfl rfl ?_) | refine aoE (alW tabOk rfl rfl rfl rfl rfl rfl ?_) | refine cdN rfl tI (fun hc => ?_) (fun hc => ?_) | refine blK ?_ | refine exW ?_ | refine skW ?_ | refine rtW ?_)
   all_goals first | (exfalso; omega) | skip
   refine ⟨.inr rfl, Ent.b (Eq.symm ?_)⟩
   have e : f.cuts.take k = f.cuts := zAi (by omega)
   rw [e] at hnd
   have h1 : cutsOk f.bars f.cuts = true := by
    unfold cutsOk
    simp only [zA0, zA6, dEt]
    refine ⟨fun x hx => ?_, hnd⟩
    obtain ⟨j, hj, e⟩ := zDc hx
    have := hall j (by omega)
    rw [getD_at' hj, e] at this; exact this
   rw [h1, zBd, zAl]; simp; omega
end Go.Proofs.YtdglbdfdkabjfaaGreatDoor.Pl
namespace Go.Ab
theorem PRun.eq {P : Program} {o : Oper} {env : Env} {σ : Store} {v v' : AV} (h : PRun P o env σ v) (e : v = v') : PRun P o env σ v' := e ▸ h
theorem PRun.convV {P : Program} {T : Tab} (hT : T.Ok P) {o : Oper} {env : Env} {σ : Store} {s d : TypeId} {x : Operand} {k k' : IntKind} {a r : Int} {lis : LI} {sz by' : Nat} {z : List Z} (h : k'.wrap a = r) (ho : o.op = .convert s d x) (hx : rdv env x = some (.prim (.int k a))) (nx : rdn env x) (hs' : T.get s = some lis) (hl : T.get d = some ⟨.int k', sz, by', z⟩) :
 PRun P o env σ (.prim (.int k' r)) := h ▸ PRun.convW hT ho hx nx hs' hl
theorem PRun.remV {P : Program} {o : Oper} {env : Env} {σ : Store} {t t' : TypeId} {x y : Operand} {k : IntKind} {a b r : Int} (h : a.tmod b = r) (hb : b ≠ 0) (ho : o.op = .binOp .rem t x y t') (hx : rdv env x = some (.prim (.int k a))) (nx : rdn env x) (hy : rdv env y = some (.prim (.int k b))) (ny : rdn env y) :
 PRun P o env σ (.prim (.int k r)) := h ▸ PRun.rem ho (Rd.w hx nx) (Rd.w hy ny) hb
end Go.Ab
