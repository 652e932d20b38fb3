/- Errors by content: code (errors.As at *refused).  Contracts by content: score.asked, Bar, Part, Note.  Place in plain words: what a call means, what a moment is called. No program is in sight. Contracts by content: first, right, inForce. No statement is proved here. -/
import Derived.Test.YtdglbdfdkabjfaaGreatDoorP8
import Derived.Test.YtdglbdfdkabjfaaGreatDoorP11
import Derived.Test.YtdglbdfdkabjfaaGreatDoorP15
import Derived.Test.YtdglbdfdkabjfaaGreatDoorP17
import Derived.Test.YtdglbdfdkabjfaaGreatDoorP18
import Derived.Test.YtdglbdfdkabjfaaGreatDoorP19
set_option linter.unusedVariables false
set_option linter.unusedSimpArgs false
namespace Go.Proofs.YtdglbdfdkabjfaaGreatDoor.Pl
open Go.RowKit Go.Extern.Stop Go.Stop Go.Extern Go.Ab
abbrev errG : Value := .iface 242 (.agg #[.pointer (some ⟨2, 92, none⟩)])
abbrev refuV (x : Int) : Value := .iface 149 (.agg #[.int .i64 x])
abbrev c1 (t : Addr) : Obj := .cells #[.pointer (some t)] 159
abbrev c2 (n : Nat) : Obj := .cells #[.pointer (some ⟨2, 159, none⟩), .pointer (some ⟨n, 0, none⟩), .int .u64 150] 200
set_option maxHeartbeats 4000000 in
set_option maxRecDepth 100000 in
theorem as_hit (x : Int) (t : Addr) (old : Value) (w : World) (hg : w.cell? ⟨0, 0, none⟩ = some errG) (ht0 : w.cell? t = some old) (hf0 : w.frozen? t = false) :
 Calls Tryz.prog 101 #[refuV x, .iface 159 (.pointer (some t))] w fun ev w' => ev = .returned (.bool true) ∧ w' = ((((w.alloc (c1 t)).alloc (c2 w.heap.size)).alloc (c2 w.heap.size)).alloc (.cells #[.int .i64 x] 149)).setCell t (.int .i64 x) := by
 have h6 := @run_callFunc_extern Tryz.prog 155 _ (fun args => ReflectliteValue.unpack (args.getD 0 (.tuple #[]))) Tryz.func155 (by kernel_rfl) (by kernel_rfl) (by kernel_rfl) (by kernel_rfl)
 have h7 := @run_callFunc_extern Tryz.prog 156 _ (ReflectliteValue.methodAny (ReflectliteValue.valueError "reflectlite.Value.Type" 0) (fun t _ _ _ => ReflectliteType.toType t)) Tryz.func156 (by kernel_rfl) (by kernel_rfl) (by kernel_rfl) (by kernel_rfl)
 have h8 := @run_callFunc_extern Tryz.prog 157 _ (ReflectliteValue.method (ReflectliteValue.valueError "reflectlite.Value.IsNil" 0) ReflectliteValue.isNil) Tryz.func157 (by kernel_rfl) (by kernel_rfl) (by kernel_rfl) (by kernel_rfl)
 have h27 := @run_callFunc_extern Tryz.prog 269 _ (ReflectliteType.abiMethod fun t => do pure (.int .u8 (← Rtype.kind t))) Tryz.func269 (by kernel_rfl) (by kernel_rfl) (by kernel_rfl) (by kernel_rfl)
 have h37 := @run_callFunc_extern Tryz.prog 281 _ (ReflectliteType.method ReflectliteType.elem) Tryz.func281 (by kernel_rfl) (by kernel_rfl) (by kernel_rfl) (by kernel_rfl)
 have h38 := @run_callFunc_extern Tryz.prog 282 _ (ReflectliteType.relation "Implements" ReflectliteType.implements_) Tryz.func282 (by kernel_rfl) (by kernel_rfl) (by kernel_rfl) (by kernel_rfl)
 have h10 := @run_callFunc_extern Tryz.prog 196 _ ReflectliteType.typeOf Tryz.func196 (by kernel_rfl) (by kernel_rfl) (by kernel_rfl) (by kernel_rfl)
 have h35 := @run_callFunc_extern Tryz.prog 279 _ (ReflectliteType.relation "AssignableTo" ReflectliteType.assignableTo) Tryz.func279 (by kernel_rfl) (by kernel_rfl) (by kernel_rfl) (by kernel_rfl)
 have h11 := @run_callFunc_extern Tryz.prog 197 _ (ReflectliteValue.method (ReflectliteValue.valueError "reflectlite.Value.Elem" 0) ReflectliteValue.elem) Tryz.func197 (by kernel_rfl) (by kernel_rfl) (by kernel_rfl) (by kernel_rfl)
 have h12 := @run_callFunc_extern Tryz.prog 198 _ ReflectliteValue.set Tryz.func198 (by kernel_rfl) (by kernel_rfl) (by kernel_rfl) (by kernel_rfl)
 have tO := typeOfR
 have mA := methodAssignableTo
 have a25 := assignableR
 have v25 := valueOfR
 have f6 := valueOfP
 have f7 := typeP
 have mK := methodKind
 have mE := methodElem
 have mI := methodImplements
 have k27 := kindP
 have k25 := kindR
 have e27 := elemP
 have i25 := implementsR
 have n8 := isNilP ⟨w.heap.size, 0, none⟩ t ((w.alloc (c1 t)).alloc (c2 w.heap.size)) (by simp)
 have hlt : 0 < w.heap.size := by
  rcases zAz w.heap.size with h0 | h
  · simp [World.cell?, h0] at hg
  · exact h
 have hg2 : ((w.alloc (c1 t)).alloc (c2 w.heap.size)).cell? ⟨0, 0, none⟩ = some errG := by
  rw [World.cell?_alloc_lt _ _ ⟨0, 0, none⟩ (by simp), World.cell?_alloc_lt _ _ ⟨0, 0, none⟩ hlt]; exact hg
 have htl : t.block < w.heap.size := by
  rcases nLg t.block w.heap.size with h | h
  · exact h
  · simp [World.cell?, zAm h] at ht0
 have el := elemVP ⟨w.heap.size, 0, none⟩ t (((w.alloc (c1 t)).alloc (c2 w.heap.size)).alloc (c2 w.heap.size)) (by rw [World.cell?_alloc_lt _ _ ⟨w.heap.size, 0, none⟩ (by simp; omega)]; simp)
 have st := setR t ⟨w.heap.size + 1 + 1 + 1, 0, none⟩ x old ((((w.alloc (c1 t)).alloc (c2 w.heap.size)).alloc (c2 w.heap.size)).alloc (.cells #[.int .i64 x] 149))
  (by rw [World.cell?_alloc_at _ _ _ _ (by simp)]; rfl)
  (by rw [World.cell?_alloc_lt _ _ t (by simp; omega), World.cell?_alloc_lt _ _ t (by simp; omega), World.cell?_alloc_lt _ _ t (by simp; omega), World.cell?_alloc_lt _ _ t htl]; exact ht0)
  (by rw [World.frozen?_alloc_old _ _ t (by simp; omega), World.frozen?_alloc_old _ _ t (by simp; omega), World.frozen?_alloc_old _ _ t (by simp; omega), World.frozen?_alloc_old _ _ t (Nat.ne_of_lt htl)]; exact hf0)
 go_enter Tryz.func101, Tryz.ntmps101
 go_wp2
 refine wp_loop_rounds 1 ?_
 rw [rounds_succ]
 go_wp2
 go_ret
 exact ⟨rfl, rfl⟩
set_option maxHeartbeats 4000000 in
set_option maxRecDepth 100000 in
theorem code_hitC (x : Int) (w : World) (hg : w.cell? ⟨0, 0, none⟩ = some errG) :
 Calls Tryz.prog 44 #[refuV x] w fun e w' => e = .returned (.int .i64 x) ∧ w' = ((((w.alloc (.cells #[.int .i64 x] 149)).alloc (c1 ⟨w.heap.size, 0, none⟩)).alloc (c2 (w.heap.size + 1))).alloc (c2 (w.heap.size + 1))).alloc (.cells #[.int .i64 x] 149) := by
 have hlt : 0 < w.heap.size := by
  rcases zAz w.heap.size with h0 | h
  · simp [World.cell?, h0] at hg
  · exact h
 have hgA : (w.alloc (.cells #[.int .i64 0] 149)).cell? ⟨0, 0, none⟩ = some errG := by
  rw [World.cell?_alloc_lt _ _ ⟨0, 0, none⟩ hlt]; exact hg
 have htA : (w.alloc (.cells #[.int .i64 0] 149)).cell? ⟨w.heap.size, 0, none⟩ = some (.int .i64 0) := by simp
 have hfA : (w.alloc (.cells #[.int .i64 0] 149)).frozen? ⟨w.heap.size, 0, none⟩ = false := by simp
 go_enter Tryz.func44, Tryz.ntmps44
 go_wp2_with (first | (go_at_call 101; refine (as_hit x _ (.int .i64 0) _ hgA htA hfA).mono ?_; rintro e w' ⟨rfl, rfl⟩))
 go_ret
 exact ⟨rfl, rfl⟩
theorem post_alloc {M : Mem} {w0 w : World} (h : Post M w0 M w) (o : Obj) : Post M w0 M (w.alloc o) :=
 ⟨h.le, memOk_alloc h.ok o, by have := h.size; simp; omega, fun b hb => by
  rw [heap_alloc, if_neg (by have := h.size; omega)]; exact h.heap b hb, h.mem, h.out.trans ⟨⟨rfl, rfl⟩, rfl, nLr _⟩⟩
theorem post_refl {M : Mem} {w : World} (h : MemOk M w) : Post M w M w := ⟨Mem.Le.refl _, h, nLr _, fun _ _ => rfl, fun _ _ => ⟨fun _ => rfl, rfl⟩, OutR.refl _⟩
theorem code_spec (x : Int) : PCall Tryz.prog 44 [.prim (refuV x)] (.int x) := by
 refine ⟨⟨_, Tryz.func44, rfl, rfl⟩, fun M w vs hM ha => ?_⟩
 have hv : vs = #[refuV x] := by
  obtain ⟨h1, h2⟩ := ha
  have h3 := VRel.prim_eq (h2 0 _ rfl)
  refine Array.ext (by simpa using h1) fun i hi hj => ?_
  have hi0 : i = 0 := by simp at hj; exact hj
  subst hi0
  have : vs.getD 0 undef = vs[0] := by simp [Array.getD, hi]
  rw [← this, h3]; rfl
 subst hv
 have hg : w.cell? ⟨0, 0, none⟩ = some errG := hM.c _ _ _ (hM.g (0, [errG]) (by unfold Gam; exact zAt ..) 0 _ rfl)
 refine (code_hitC x w hg).mono ?_
 rintro e w' ⟨rfl, rfl⟩
 exact ⟨_, M, rfl, .prim _, post_alloc (post_alloc (post_alloc (post_alloc (post_alloc (post_refl hM) _) _) _) _) _⟩
end Go.Proofs.YtdglbdfdkabjfaaGreatDoor.Pl
namespace Go.Ab
section
variable {P : Program} {T : Tab} {o : Oper} {env : Env} {σ : Store}
theorem PRun.ifaceA {t : TypeId} {x : Operand} (vs : List Value) (hi : notIface P t = true) (ho : o.op = .makeInterface t x) (hx : rdv env x = some (.agg (vs.map AV.prim))) (nx : rdn env x) :
 PRun P o env σ (.prim (.iface t (.agg vs.toArray))) :=
 .of fun G A w hs hv => by
  have h1 := rd (Rd.w hx nx) (by simp [ho, Op.operands]) hv
  have h2 : A.eval x = .agg vs.toArray := by
   generalize A.eval x = y at h1
   cases h1 with
   | agg _ us hl hr =>
     congr 1
     rw [lLm] at hl
     refine Array.ext (by simpa using hl) fun i hi1 hi2 => ?_
     have hi3 : i < vs.length := by simpa using hi2
     have := VRel.prim_eq (hr i (.prim vs[i]) (by rw [zA9, zA1 hi3]; rfl))
     rw [show us.getD i undef = us[i] by simp [Array.getD, hi1]] at this
     rw [this]; simp
  refine ⟨.iface t (.agg vs.toArray), ?_, .prim _⟩
  unfold notIface at hi
  split at hi <;> simp at hi
  rename_i d hn hd
  simp only [execOp, ho, Instr.makeInterface, h2]
  rw [Sem.run_bind, Sem.run_bind, run_underlying hd w]
  cases d with
  | interface ms => exact (hn _ rfl).elim
  | _ => rfl
def ifaceNe : Value → Option Bool
 | .nilIface => some false
 | .iface _ _ => some true
 | _ => none
theorem PRun.nilIfaceN {t t' : TypeId} {x : Operand} {v : Value} {r : Bool} (hi : ∃ ms, P.underlying t = some (.interface ms)) (ho : o.op = .binOp .neq t x (.const .nilIface) t') (hx : rdv env x = some (.prim v)) (nx : rdn env x) (hr : ifaceNe v = some r) :
    PRun P o env σ (.b r) :=
  .of fun G A w hs hv => by
    have h1 := VRel.prim_eq (rd (Rd.w hx nx) (by simp [ho, Op.operands]) hv)
    obtain ⟨ms, hi⟩ := hi
    refine ⟨.bool r, ?_, .prim _⟩
    have e : A.eval (.const .nilIface) = .nilIface := rfl
    unfold ifaceNe at hr
    split at hr <;> simp at hr <;> subst hr
    · simp only [execOp, ho, h1, e]
      have h2 : (binOp .neq t .nilIface .nilIface) = (do pure (.bool (!(← Op.equal t .nilIface .nilIface)))) := rfl
      have h3 : (Op.equal t .nilIface .nilIface).run P w = .ok true w := by
        show (Op.equalIn (9999 + 1) t .nilIface .nilIface).run P w = _
        rw [Op.equalIn, Sem.run_bind, run_underlying hi]; rfl
      rw [h2]
      simp [eqGuard, h3]
    · simp only [execOp, ho, h1, e]
      rename_i ti vi
      have h2 : (binOp .neq t (.iface ti vi) .nilIface) = (do pure (.bool (!(← Op.equal t (.iface ti vi) .nilIface)))) := rfl
      have h3 : (Op.equal t (.iface ti vi) .nilIface).run P w = .ok false w := by
        show (Op.equalIn (9999 + 1) t (.iface ti vi) .nilIface).run P w = _
        rw [Op.equalIn, Sem.run_bind, run_underlying hi]; rfl
      rw [h2]
      simp [eqGuard, h3]
end
end Go.Ab
namespace Go.Proofs.YtdglbdfdkabjfaaGreatDoor.Pl
open Go.Ab
attribute [local irreducible] AWP AOps EStep AQ PStep PRun PCall TCall VCall
def errV (x : Int) : Value := if x = 0 then .nilIface else refuV x
theorem need_spec (ok : Bool) (x : Int) (hx : x ≠ 0) : PCall Tryz.prog 36 [.b ok, .int x] (.prim (errV (if ok then 0 else x))) := by
 refine PCall.body Tryz.func36 rfl rfl Tryz.ntmps36 rfl rfl ?_
 repeat' (first | refine aoQ rfl rfl rfl (fun hg => by first | exact std0 | exact pbD tabOk rfl rfl nds | exact PRun.ifaceA [.int .i64 x] (by kernel_rfl) rfl rfl nd) (by exact rfl) ?_ | refine sqW ?_ | refine rgK (fun K' hK => ?_) | (refine aoN (hK _ _ ?_); clear hK K') | (refine cdN rfl tI (fun hc => ?_) (fun hc => ?_) <;> try dsimp only at hc) | refine skW ?_ | refine rtW ?_)
 · exact ⟨.inr rfl, Ent.of (by rw [hc]; rfl)⟩
 · refine ⟨.inr rfl, Ent.of ?_⟩
   rw [hc]
   show AV.prim _ = AV.prim (errV x)
   unfold errV; rw [if_neg hx]
end Go.Proofs.YtdglbdfdkabjfaaGreatDoor.Pl
namespace Go.Proofs.YtdglbdfdkabjfaaGreatDoor
open Go.Ab
attribute [local irreducible] AWP AOps EStep AQ PStep PRun PCall TCall VCall
def askedB (s : Score) (id : Int) : Bool := scoreOk s && inB id 1 1000000
theorem asked_spec (s : Score) (hs : s.Small) (id : Int) : PCall Tryz.prog 152 [.agg (encS s), .int id] (.b (askedB s id)) := by
 refine PCall.body Tryz.func152 rfl rfl Tryz.ntmps152 rfl rfl ?_
 repeat' (first | refine aoQ rfl rfl rfl (fun hg => by first | exact std0 | exact pcW (svalid_spec s hs) rfl rfl nd rfl nds | exact pcW (sisID_spec _) rfl rfl nd rfl nds | exact std1) (by exact rfl) ?_ | refine sqW ?_ | refine rgK (fun K' hK => ?_) | (refine aoN (hK _ _ ?_); clear hK K') | refine aoE (bxW rfl rfl rfl rfl rfl tI rfl rfl ?_) | refine rtW ?_)
 exact ⟨.inr rfl, Ent.b rfl⟩
def idR (ok : Bool) (i : Int) : Int × Bool × Int := if ok then ((idxR i).1, (idxR i).2, 0) else (0, false, 1)
def at3 (r : Int × Bool × Int) : AV := .tup [.int r.1, .b r.2.1, .int r.2.2]
def barR (s : Score) (id : Int) : Int × Bool × Int := idR (askedB s id) (findI (fun x : Bar => x.id == id) s.bars)
theorem sBar_spec (s : Score) (hs : s.Small) (id : Int) : PCall Tryz.prog 96 [.agg (encS s), .int id] (at3 (barR s id)) := by
 have ha := asked_spec s hs id
 obtain ⟨h1, h2, h3⟩ := hs
 refine PCall.body Tryz.func96 rfl rfl Tryz.ntmps96 rfl rfl ?_
 repeat' (first | refine aoQ rfl rfl rfl (fun hg => by first | exact std0 | exact pcW (ha) rfl rfl nd rfl nds | exact pcW (indexBar_spec s.bars id (by omega)) rfl rfl nd rfl nds | exact std1) (by exact rfl) ?_ | refine sqW ?_ | refine rgK (fun K' hK => ?_) | (refine aoN (hK _ _ ?_); clear hK K') | refine aoE (bxW rfl rfl rfl rfl rfl tI rfl rfl ?_) | refine aoE (stW tabOk rfl rfl rfl tI rfl rfl tI rfl rfl rfl rfl rfl rfl rfl ?_) | refine aoE (alW tabOk rfl rfl rfl rfl rfl rfl ?_) | refine cdN rfl tI (fun hc => ?_) (fun hc => ?_) | refine blK ?_ | refine exW ?_ | refine skW ?_ | refine rtW ?_ | refine dK2 (by decide +kernel) (by kernel_rfl) (by decide +kernel) rfl (fun K' hK => ?_) | refine dL2 (by kernel_rfl) (by decide +kernel) rfl (fun K' hK => ?_) | (refine aqN (hK _ ?_); clear hK K') | refine aqN ?_ | refine aqQ rfl rfl (fun hg => by first | exact std0 | exact pcW (ha) rfl rfl nd rfl nds | exact pcW (indexBar_spec s.bars id (by omega)) rfl rfl nd rfl nds | exact std1) (by exact rfl) ?_)
 · refine ⟨.inr rfl, Ent.of ?_⟩
   rw [show barR s id = (0, false, 1) from by unfold barR idR; rw [if_neg (by simpa using hc)]]; rfl
 · refine ⟨.inr rfl, Ent.of ?_⟩
   unfold barR idR; rw [if_pos (by simpa using hc)]; rfl
end Go.Proofs.YtdglbdfdkabjfaaGreatDoor
namespace Go.Proofs.YtdglbdfdkabjfaaGreatDoor.Pl
open Go.Ab Go.Pl
structure Call where
 letter : ByteArray
 number : Int
 bars : Int
 beat : Rat
 pass : Int
structure Mom where
 bar : Int
 pass : Int
 pos : Rat
structure Room where
 version : Int
 form : PForm
 ossias : List Int
def encCl (c : Call) : List AV := [.str c.letter, .int c.number, .int c.bars, .int c.beat.n, .int c.beat.d, .int c.pass]
def encMo (m : Mom) : List AV := [.int m.bar, .int m.pass, .int m.pos.n, .int m.pos.d]
def noMom : Mom := ⟨0, 0, ⟨0, 0⟩⟩
def noCall : Call := ⟨⟨#[]⟩, 0, 0, ⟨0, 0⟩, 0⟩
def placeOk (c : Call) : Bool := (c.letter.size == 0 && inB c.number 0 100000) || (Ed.nameB c.letter && c.number == 0)
def callOk (c : Call) : Bool := placeOk c && (durOk c.beat && decide (c.beat.n < 24 * c.beat.d)) && inB c.bars (-1000) 1000 && inB c.pass 0 20000
def roomB (s : Score) (r : Room) : Bool := r.version == s.version && r.form.bars == (s.bars.length : Int) && formOk r.form
def rightB (s : Score) (e : Ed.Edition) (r : Room) : Bool := scoreOk s && Ed.formB e && roomB s r
def under (a b : Rat) : Bool := (ratCmp a b).2 == 0 && decide ((ratCmp a b).1 < 0)
def forceN : Force → Int
 | .yes => 0
 | .cut => 31
 | .never => 30
def reason (s : Score) (r : Room) (m : Mom) : Int :=
 if barAt s.bars m.bar < 0 then 32
 else if under m.pos (s.bars.getD (barAt s.bars m.bar).toNat default).len = false then 3
 else forceN (force r.form ⟨barAt s.bars m.bar, m.pass⟩)
def named (e : Ed.Edition) (c : Call) : Int × Int := if c.letter.size ≠ 0 then Ed.letR e c.letter else Ed.numR e c.number
def resolve (s : Score) (e : Ed.Edition) (r : Room) (c : Call) : Mom × Int :=
 if (rightB s e r && callOk c) = false then (noMom, 1)
 else if (named e c).2 ≠ 0 then (noMom, (named e c).2)
 else if (decide (0 ≤ (named e c).1 + c.bars) && decide ((named e c).1 + c.bars < (e.bars.length : Int))) = false then (noMom, 21)
 else if (Ed.viR e ((named e c).1 + c.bars) c.pass).err ≠ 0 then (noMom, (Ed.viR e ((named e c).1 + c.bars) c.pass).err)
 else if reason s r ⟨(Ed.viR e ((named e c).1 + c.bars) c.pass).bar, (Ed.viR e ((named e c).1 + c.bars) c.pass).pass, c.beat⟩ ≠ 0 then
  (noMom, reason s r ⟨(Ed.viR e ((named e c).1 + c.bars) c.pass).bar, (Ed.viR e ((named e c).1 + c.bars) c.pass).pass, c.beat⟩)
 else (⟨(Ed.viR e ((named e c).1 + c.bars) c.pass).bar, (Ed.viR e ((named e c).1 + c.bars) c.pass).pass, c.beat⟩, 0)
def momOk (m : Mom) : Bool := durOk m.pos && inB m.bar 1 1000000 && inB m.pass 1 20000
def sideL (i : Int) (before : Bool) (l : Ed.Letter) : Bool := (decide (l.pos ≤ i) != before) || decide (max (l.pos - i) (i - l.pos) > 1000)
def bestL (e : Ed.Edition) (i : Int) (before : Bool) : Nat → Int
 | 0 => -1
 | k + 1 =>
   if sideL i before (e.letters.getD k default) then bestL e i before k
   else if bestL e i before k < 0 then (k : Int)
   else if max ((e.letters.getD k default).pos - i) (i - (e.letters.getD k default).pos) < max ((e.letters.getD (bestL e i before k).toNat default).pos - i) (i - (e.letters.getD (bestL e i before k).toNat default).pos) then (k : Int)
   else bestL e i before k
def timesN (e : Ed.Edition) (n : Int) : Nat := e.bars.countP (Ed.numP n)
def onceP (e : Ed.Edition) (k : Int) : Bool := timesN e (e.bars.getD k.toNat default).number == 1
def goDown (e : Ed.Edition) : Nat → Int → Int
 | 0, _ => -1
 | n + 1, k => if k < 0 then -1 else if onceP e k then k else goDown e n (k - 1)
def goUp (e : Ed.Edition) : Nat → Int → Int
 | 0, _ => -1
 | n + 1, k => if (e.bars.length : Int) ≤ k then -1 else if onceP e k then k else goUp e n (k + 1)
structure Nm where
 letter : ByteArray
 number : Int
 pos : Int
def nameL (e : Ed.Edition) (k : Int) : Option Nm := if k < 0 then none else some ⟨(e.letters.getD k.toNat default).name, 0, (e.letters.getD k.toNat default).pos⟩
def nameN (e : Ed.Edition) (k : Int) : Option Nm := if k < 0 then none else some ⟨⟨#[]⟩, (e.bars.getD k.toNat default).number, k⟩
def nearL (e : Ed.Edition) (i : Int) : List (Option Nm) :=
 [nameL e (bestL e i true e.letters.length), nameN e (goDown e 1001 i), nameL e (bestL e i false e.letters.length), nameN e (goUp e 1000 (i + 1))]
def near (e : Ed.Edition) (i : Int) : Option Nm := (nearL e i).findSome? id
def locate (s : Score) (e : Ed.Edition) (r : Room) (m : Mom) : Call × Bool × Int :=
 if (rightB s e r && momOk m) = false then (noCall, false, 1)
 else if reason s r m ≠ 0 then (noCall, false, reason s r m)
 else if (Ed.plR e m.bar m.pass).ok = false then (noCall, false, 0)
 else match near e (Ed.plR e m.bar m.pass).pos with
  | none => (noCall, false, 0)
  | some x => (⟨x.letter, x.number, (Ed.plR e m.bar m.pass).pos - x.pos, m.pos, (Ed.plR e m.bar m.pass).pass⟩, true, 0)
theorem bestL_in {e : Ed.Edition} {i : Int} {before : Bool} : ∀ (k : Nat), k ≤ e.letters.length → bestL e i before k = -1 ∨ ∃ j : Nat, bestL e i before k = j ∧ j < k ∧ sideL i before (e.letters.getD j default) = false
 | 0, _ => .inl rfl
 | k + 1, h => by
   have e1 : bestL e i before (k + 1) = if sideL i before (e.letters.getD k default) then bestL e i before k
    else if bestL e i before k < 0 then (k : Int)
    else if max ((e.letters.getD k default).pos - i) (i - (e.letters.getD k default).pos) < max ((e.letters.getD (bestL e i before k).toNat default).pos - i) (i - (e.letters.getD (bestL e i before k).toNat default).pos) then (k : Int)
    else bestL e i before k := rfl
   have ih := bestL_in (e := e) (i := i) (before := before) k (by omega)
   rw [e1]
   by_cases h1 : sideL i before (e.letters.getD k default) = true
   · rw [if_pos h1]
     rcases ih with h2 | ⟨j, h2, h3, h4⟩
     · exact .inl h2
     · exact .inr ⟨j, h2, by omega, h4⟩
   · rw [if_neg h1]
     have h1' : sideL i before (e.letters.getD k default) = false := by simpa using h1
     by_cases h2 : bestL e i before k < 0
     · rw [if_pos h2]; exact .inr ⟨k, rfl, by omega, h1'⟩
     · rw [if_neg h2]
       by_cases h3 : max ((e.letters.getD k default).pos - i) (i - (e.letters.getD k default).pos) < max ((e.letters.getD (bestL e i before k).toNat default).pos - i) (i - (e.letters.getD (bestL e i before k).toNat default).pos)
       · rw [if_pos h3]; exact .inr ⟨k, rfl, by omega, h1'⟩
       · rw [if_neg h3]
         rcases ih with h3 | ⟨j, h3, h4, h5⟩
         · exact .inl h3
         · exact .inr ⟨j, h3, by omega, h5⟩
theorem goDown_in {e : Ed.Edition} : ∀ (n : Nat) (k : Int), k < (e.bars.length : Int) → goDown e n k = -1 ∨ (0 ≤ goDown e n k ∧ goDown e n k < (e.bars.length : Int) ∧ onceP e (goDown e n k) = true ∧ goDown e n k ≤ k ∧ k - goDown e n k < n)
 | 0, _, _ => .inl rfl
 | n + 1, k, h => by
   have e1 : goDown e (n + 1) k = if k < 0 then -1 else if onceP e k then k else goDown e n (k - 1) := rfl
   rw [e1]
   by_cases h1 : k < 0
   · rw [if_pos h1]; exact .inl rfl
   · rw [if_neg h1]
     by_cases h2 : onceP e k = true
     · rw [if_pos h2]; exact .inr ⟨by omega, h, h2, by omega, by omega⟩
     · rw [if_neg h2]
       rcases goDown_in (e := e) n (k - 1) (by omega) with h3 | h3
       · exact .inl h3
       · exact .inr ⟨h3.1, h3.2.1, h3.2.2.1, by omega, by omega⟩
theorem goUp_in {e : Ed.Edition} : ∀ (n : Nat) (k : Int), 0 ≤ k → goUp e n k = -1 ∨ (0 ≤ goUp e n k ∧ goUp e n k < (e.bars.length : Int) ∧ onceP e (goUp e n k) = true ∧ k ≤ goUp e n k ∧ goUp e n k - k < n)
 | 0, _, _ => .inl rfl
 | n + 1, k, h => by
   have e1 : goUp e (n + 1) k = if (e.bars.length : Int) ≤ k then -1 else if onceP e k then k else goUp e n (k + 1) := rfl
   rw [e1]
   by_cases h1 : (e.bars.length : Int) ≤ k
   · rw [if_pos h1]; exact .inl rfl
   · rw [if_neg h1]
     by_cases h2 : onceP e k = true
     · rw [if_pos h2]; exact .inr ⟨by omega, by omega, h2, by omega, by omega⟩
     · rw [if_neg h2]
       rcases goUp_in (e := e) n (k + 1) (by omega) with h3 | h3
       · exact .inl h3
       · exact .inr ⟨h3.1, h3.2.1, h3.2.2.1, by omega, by omega⟩
structure NmOk (e : Ed.Edition) (i : Int) (x : Nm) : Prop where
 at_ : 0 ≤ x.pos ∧ x.pos < (e.bars.length : Int)
 far : i - x.pos ≤ 1000 ∧ x.pos - i ≤ 1000
 nm : (∃ j : Nat, j < e.letters.length ∧ x.letter = (e.letters.getD j default).name ∧ x.pos = (e.letters.getD j default).pos ∧ x.number = 0) ∨ (x.letter = ⟨#[]⟩ ∧ x.number = (e.bars.getD x.pos.toNat default).number ∧ onceP e x.pos = true)
theorem letOk_at {e : Ed.Edition} (h : Ed.formB e = true) {j : Nat} (hj : j < e.letters.length) : Ed.letOk e j = true := by
 unfold Ed.formB at h
 simp only [zA0, zA6] at h
 exact h.2 j (zAu.2 hj)
end Go.Proofs.YtdglbdfdkabjfaaGreatDoor.Pl
namespace Go.Proofs.YtdglbdfdkabjfaaGreatDoor.Pl
open Go.Ab Go.Pl
attribute [local irreducible] AWP AOps EStep AQ PStep PRun PCall TCall VCall
theorem errI : ∃ ms, Tryz.prog.underlying 92 = some (.interface ms) := ⟨_, Tryz.underlying92⟩
theorem err_ne (x : Int) : ifaceNe (errV x) = some (decide (x ≠ 0)) := by
 unfold errV
 by_cases h : x = 0
 · subst h; rfl
 · rw [if_neg h, decide_eq_true h]; rfl
structure Chk where
 k : FuncId
 caps : List (List AV)
 res : Int
instance : Inhabited Chk := ⟨⟨0, [], 0⟩⟩
def encChk (c : Chk) : List AV := [.fn (.func c.k) [] (c.caps.map AV.iptr)]
def firstC : List Chk → Int
 | [] => 0
 | c :: l => if c.res = 0 then firstC l else c.res
theorem firstC_drop (l : List Chk) : ∀ k, (∀ j, j < k → (l.getD j default).res = 0) → firstC l = firstC (l.drop k)
 | 0, _ => rfl
 | k + 1, h => by
   rw [firstC_drop l k fun j hj => h j (by omega)]
   rcases nLg k l.length with hk | hk
   · rw [drop_at hk]
     show (if _ then _ else _) = _
     rw [if_pos (h k (by omega))]
   · rw [zB9 hk, zB9 (by omega)]
theorem first_spec (l : List Chk) (hl : l.length ≤ 1000000000) (hf : ∀ k, k < l.length → (∀ j, j < k → (l.getD j default).res = 0) → PCall Tryz.prog (l.getD k default).k ((l.getD k default).caps.map AV.iptr) (.prim (errV (l.getD k default).res))) :
 PCall Tryz.prog 32 [.sl 1 (l.map encChk) .no] (.prim (errV (firstC l))) := by
 refine PCall.body Tryz.func32 rfl rfl Tryz.ntmps32 rfl rfl ?_
 repeat' (first | refine aoQ rfl rfl rfl (fun hg => by first | exact std0 | exact std1) (by exact rfl) ?_ | refine sqW ?_ | refine rgK (fun K' hK => ?_) | (refine aoN (hK _ _ ?_); clear hK K') | refine blK ?_)
 refine lpD (ι := Nat) (fun k => [(6, .sl 1 (l.map encChk) .no), (7, .int l.length), (8, .int k)]) (fun _ => []) (fun k => k ≤ l.length ∧ ∀ j, j < k → (l.getD j default).res = 0) (fun k => l.length - k) 0 (fun _ => rfl) 0 ⟨nZl _, fun j h => absurd h (by omega)⟩ ⟨rfl, rfl, rfl, tI⟩ rfl (fun _ _ => rfl) (fun _ _ => rfl) ?_
 rintro k ⟨hk, hall⟩
 by_cases hlt : k < l.length
 · have hc0 := hf k hlt hall
   have hv : VCall Tryz.prog (.fn (.func (l.getD k default).k) [] ((l.getD k default).caps.map AV.iptr)) [] ([] : Store) (fun rv s => rv = .prim (errV (l.getD k default).res) ∧ s = []) := by
    have h2 := PCall.tcall (σ := []) hc0 fun v hv => by
     obtain ⟨cs, _, rfl⟩ := zB4.1 hv; rfl
    exact TCall.val (first := []) (avs := []) h2
   have hne := err_ne (l.getD k default).res
   generalize hx : errV (l.getD k default).res = ev at *
   repeat' (first | refine aoQ rfl rfl rfl (fun hg => by first | exact std0 | exact PRun.callQ (hv) rfl rfl nd rfl rfl nds | exact PRun.nilIfaceN errI rfl rfl nd hne | exact std1) (by exact rfl) ?_ | refine sqW ?_ | refine rgK (fun K' hK => ?_) | (refine aoN (hK _ _ ?_); clear hK K') | (refine cdN rfl tI (fun hc => ?_) (fun hc => ?_) <;> try dsimp only at hc) | refine blK ?_ | refine exW ?_ | refine skW ?_ | refine rtW ?_)
   all_goals first | (exfalso; omega) | skip
   · subst hx
     refine ⟨.inr rfl, Ent.of ?_⟩
     rw [firstC_drop l k hall, drop_at hlt]
     show _ = AV.prim (errV (if _ then _ else _))
     rw [if_neg (by simpa using hc)]; rfl
   · exact ⟨k + 1, ⟨by omega, fun j hj => lt_succ_cases hall (by simpa using hc) hj⟩, by omega, ⟨rfl, rfl, rfl, tI⟩, rfl⟩
 · repeat' (first | refine aoQ rfl rfl rfl (fun hg => by first | exact std0 | exact std1) (by exact rfl) ?_ | refine sqW ?_ | refine rgK (fun K' hK => ?_) | (refine aoN (hK _ _ ?_); clear hK K') | (refine cdN rfl tI (fun hc => ?_) (fun hc => ?_) <;> try dsimp only at hc) | refine blK ?_ | refine exW ?_ | refine skW ?_ | refine rtW ?_)
   all_goals first | (exfalso; omega) | skip
   refine ⟨.inr rfl, Ent.of ?_⟩
   rw [firstC_drop l k hall, zB9 (by omega)]; rfl
def encRm (r : Room) : List AV := [.int r.version, .int r.form.bars, .sl 3 (r.form.reps.map encRp) .no, .sl 3 (r.form.ends.map encEn) .no, .int r.form.jump.at_, .int r.form.jump.to, .int r.form.jump.fine, .sl 3 (r.form.cuts.map encCt) .no, .sl 1 (r.ossias.map fun n => [AV.int n]) .no]
theorem formedP_spec (e : Ed.Edition) (hw : Ed.Wf e) : PCall Tryz.prog 90 [.agg (Ed.encE e)] (.b (Ed.formB e)) := by
 have hp := Ed.place_spec e hw 1 1
 unfold Ed.encPl at hp
 have he : ((Ed.plR e 1 1).err == 0) = Ed.formB e := by
  unfold Ed.plR
  cases Ed.formB e
  · rfl
  · rw [if_pos (by decide)]
    split <;> rfl
 refine PCall.body Tryz.func90 rfl rfl Tryz.ntmps90 rfl rfl ?_
 repeat' (first | refine aoQ rfl rfl rfl (fun hg => by first | exact std0 | exact pcW (hp) rfl rfl nd rfl nds | exact pbD tabOk rfl rfl nds) (by exact rfl) ?_ | refine sqW ?_ | refine rgK (fun K' hK => ?_) | (refine aoN (hK _ _ ?_); clear hK K') | refine aoE (bxW rfl rfl rfl rfl rfl tI rfl rfl ?_) | refine rtW ?_)
 exact ⟨.inr rfl, Ent.b he⟩
theorem right_spec (s : Score) (hs : s.Small) (e : Ed.Edition) (hw : Ed.Wf e) (r : Room) (hf : FIn r.form) : PCall Tryz.prog 34 [.agg (encS s), .agg (Ed.encE e), .agg (encRm r)] (.prim (errV (if rightB s e r then 0 else 1))) := by
 have h1 := svalid_spec s hs
 have h2 := formedP_spec e hw
 have h3 := valid_spec r.form hf
 have h4 := need_spec (rightB s e r) 1 (by decide)
 refine PCall.body Tryz.func34 rfl rfl Tryz.ntmps34 rfl rfl ?_
 repeat' (first | refine aoQ rfl rfl rfl (fun hg => by first | exact std0 | exact pcW (h1) rfl rfl nd rfl nds | exact pcW (h2) rfl rfl nd rfl nds | exact pcW (h3) rfl rfl nd rfl nds | exact pcW (h4) rfl rfl nd rfl nds | exact std1) (by exact rfl) ?_ | refine sqW ?_ | refine rgK (fun K' hK => ?_) | (refine aoN (hK _ _ ?_); clear hK K') | refine aoE (bxW rfl rfl rfl rfl rfl tI rfl rfl ?_) | refine rtW ?_)
 exact ⟨.inr rfl, fun _ _ h => h⟩
theorem inF1_spec (s : Score) (m : Mom) (i : Nat) (hi : i < s.bars.length) (hl : s.bars.length ≤ 1000000000) : PCall Tryz.prog 97 ([encMo m, encS s, [.int i]].map AV.iptr) (.prim (errV (if under m.pos (s.bars.getD i default).len then 0 else 3))) := by
 have hc := compare_spec m.pos (s.bars.getD i default).len
 have h4 := need_spec (under m.pos (s.bars.getD i default).len) 3 (by decide)
 generalize hb : s.bars.getD i default = b at *
 refine PCall.body Tryz.func97 rfl rfl Tryz.ntmps97 rfl rfl ?_
 repeat' (first | refine aoQ rfl rfl rfl (fun hg => by first | exact std0 | exact pcW (h4) rfl rfl nd rfl nds) (by exact rfl) ?_ | refine sqW ?_ | refine rgK (fun K' hK => ?_) | (refine aoN (hK _ _ ?_); clear hK K') | refine rtW ?_ | refine dK2 (by decide +kernel) (by kernel_rfl) (by decide +kernel) rfl (fun K' hK => ?_) | (refine aqN (hK _ ?_); clear hK K') | refine aqQ rfl rfl (fun hg => by first | exact iX encB s.bars ((i : Nat) : Int) hb (hb := by omega) | exact std0 | exact pcW (hc) rfl rfl nd rfl nds) (by exact rfl) ?_)
 exact ⟨.inr rfl, fun _ _ h => h⟩
theorem inF2_spec (f : PForm) (hf : FIn f) (v : PVis) (hok : formOk f = true) : PCall Tryz.prog 99 ([encF f, encV v].map AV.iptr) (.prim (errV (if v ∈ visits f then 0 else 30))) := by
 have hc := find_spec f hf v
 have h4 := need_spec (decide (v ∈ visits f)) 30 (by decide)
 rw [show findR f v = (max (findI (eqVis v) (visits f)) 0, decide (v ∈ visits f), 0) by unfold findR; rw [if_pos hok]] at hc
 refine PCall.body Tryz.func99 rfl rfl Tryz.ntmps99 rfl rfl ?_
 repeat' (first | refine aoQ rfl rfl rfl (fun hg => by first | exact std0 | exact pcW (hc) rfl rfl nd rfl nds | exact pcW (h4) rfl rfl nd rfl nds) (by exact rfl) ?_ | refine sqW ?_ | refine rgK (fun K' hK => ?_) | (refine aoN (hK _ _ ?_); clear hK K') | refine rtW ?_)
 refine ⟨.inr rfl, Ent.of ?_⟩
 simp only [dEt]
 rfl
theorem inF3_spec (r : Room) (hf : FIn r.form) (v : PVis) (hok : formOk r.form = true) : PCall Tryz.prog 100 ([encRm r, encV v].map AV.iptr) (.prim (errV (if v ∈ visits r.form then 0 else 31))) := by
 have hc := find_spec r.form hf v
 have h4 := need_spec (decide (v ∈ visits r.form)) 31 (by decide)
 rw [show findR r.form v = (max (findI (eqVis v) (visits r.form)) 0, decide (v ∈ visits r.form), 0) by unfold findR; rw [if_pos hok]] at hc
 refine PCall.body Tryz.func100 rfl rfl Tryz.ntmps100 rfl rfl ?_
 repeat' (first | refine aoQ rfl rfl rfl (fun hg => by first | exact std0 | exact pcW (hc) rfl rfl nd rfl nds | exact pcW (h4) rfl rfl nd rfl nds) (by exact rfl) ?_ | refine sqW ?_ | refine rgK (fun K' hK => ?_) | (refine aoN (hK _ _ ?_); clear hK K') | refine rtW ?_)
 refine ⟨.inr rfl, Ent.of ?_⟩
 simp only [dEt]
 rfl
theorem nilC_ent {f : PForm} : ∀ (i : Nat) u v, ([.int f.bars, .sl 3 (f.reps.map encRp) .no, .sl 3 (f.ends.map encEn) .no, .int f.jump.at_, .int f.jump.to, .int f.jump.fine, .nils] : List AV)[i]? = some u → (encF { f with cuts := [] })[i]? = some v → ∀ M B x, VRel M B u x → VRel M B v x := by
 intro i u v hu hv M B x hx
 match i, hu, hv with
 | 0, hu, hv => cases hu; cases hv; exact hx
 | 1, hu, hv => cases hu; cases hv; exact hx
 | 2, hu, hv => cases hu; cases hv; exact hx
 | 3, hu, hv => cases hu; cases hv; exact hx
 | 4, hu, hv => cases hu; cases hv; exact hx
 | 5, hu, hv => cases hu; cases hv; exact hx
 | 6, hu, hv =>
   cases hu; cases hv
   cases hx
   exact .slz 3 .no trivial
 | k + 7, hu, hv => cases hu
theorem whole_form {f : PForm} (h : formOk f = true) : formOk { f with cuts := [] } = true := by
 unfold formOk at h ⊢
 rw [whole_cuts]
 simp only [zA0, dEt] at h ⊢
 obtain ⟨⟨⟨⟨⟨⟨h1, h2⟩, h3⟩, h4⟩, h5⟩, _⟩, h8⟩ := h
 exact ⟨⟨⟨⟨⟨⟨h1, h2⟩, h3⟩, h4⟩, h5⟩, rfl, by decide⟩, h8⟩
theorem visits_whole (f : PForm) : visits { f with cuts := [] } = visL (wholeL f) := by
 unfold visits
 rw [whole_cuts]
 refine List.filter_eq_self.2 fun v _ => rfl
theorem bar_in {s : Score} (h : scoreOk s = true) {id : Int} (hb : 0 ≤ barAt s.bars id) : inB id 1 1000000 = true ∧ barAt s.bars id < s.bars.length := by
 obtain ⟨k, h1, h2, h3, _⟩ := findI_lt (p := fun b : Bar => b.id == id) (l := s.bars) hb
 refine ⟨?_, by unfold barAt; omega⟩
 have hbar : barsOk s.bars = true := by
  unfold scoreOk scoreBad at h
  simp only [zA0, zB8, zAk, zB7] at h
  exact h.1.1.1.1.2
 unfold barsOk at hbar
 simp only [zA0, zA6] at hbar
 have hk := hbar.1.1.1 _ (getD_in h2)
 unfold barOk barA at hk
 have e : (s.bars.getD k default).id = id := by simpa using h3
 simp only [zA0, zB8, zAk, dEf] at hk
 obtain ⟨⟨⟨⟨a, b⟩, _⟩, _⟩, _⟩ := hk
 rw [e] at a b
 unfold inB
 simp only [zA0, dEt]
 omega
theorem barR_at {s : Score} (h : scoreOk s = true) (id : Int) : (barR s id).2.1 = decide (0 ≤ barAt s.bars id) ∧ (0 ≤ barAt s.bars id → (barR s id).1 = barAt s.bars id) := by
 unfold barR askedB
 rw [h, zBd]
 by_cases hb : 0 ≤ barAt s.bars id
 · have hin := (bar_in h hb).1
   rw [hin]
   unfold idR
   rw [if_pos rfl]
   unfold idxR
   refine ⟨rfl, fun _ => ?_⟩
   show max (barAt s.bars id) 0 = _
   omega
 · refine ⟨?_, fun h2 => absurd h2 hb⟩
   rw [decide_eq_false hb]
   unfold idR
   split
   · exact decide_eq_false hb
   · rfl
theorem reason_no {s : Score} {r : Room} {m : Mom} (h : barAt s.bars m.bar < 0) : reason s r m = 32 := by
 unfold reason; rw [if_pos h]
theorem reason_at {s : Score} {r : Room} {m : Mom} {i : Nat} (h : barAt s.bars m.bar = i) :
 firstC [⟨97, [encMo m, encS s, [.int i]], if under m.pos (s.bars.getD i default).len then 0 else 3⟩, ⟨99, [encF { r.form with cuts := [] }, encV ⟨i, m.pass⟩], if (⟨i, m.pass⟩ : PVis) ∈ visits { r.form with cuts := [] } then 0 else 30⟩, ⟨100, [encRm r, encV ⟨i, m.pass⟩], if (⟨i, m.pass⟩ : PVis) ∈ visits r.form then 0 else 31⟩] = reason s r m := by
 have h0 : ¬ ((i : Nat) : Int) < 0 := by omega
 have hsub : (⟨i, m.pass⟩ : PVis) ∈ visits r.form → (⟨i, m.pass⟩ : PVis) ∈ visL (wholeL r.form) := fun hm => by unfold visits at hm; exact (zBk.1 hm).1
 unfold reason
 rw [h, zAa, visits_whole, if_neg h0]
 cases hu : under m.pos (s.bars.getD i default).len
 · simp [firstC]
 · by_cases h1 : (⟨i, m.pass⟩ : PVis) ∈ visits r.form
   · have h2 := hsub h1
     simp [firstC, force, forceN, h1, h2]
   · by_cases h2 : (⟨i, m.pass⟩ : PVis) ∈ visL (wholeL r.form)
     · simp [firstC, force, forceN, h1, h2]
     · simp [firstC, force, forceN, h1, h2]
set_option maxHeartbeats 2000000 in
theorem inForce_spec (s : Score) (hs : s.Small) (hok : scoreOk s = true) (r : Room) (hf : FIn r.form) (hform : formOk r.form = true) (m : Mom) : PCall Tryz.prog 43 [.agg (encS s), .agg (encRm r), .agg (encMo m)] (.prim (errV (reason s r m))) := by
 have hbar := sBar_spec s hs m.bar
 obtain ⟨e1, e2⟩ := barR_at hok m.bar
 unfold at3 at hbar
 rw [e1] at hbar
 by_cases hb : 0 ≤ barAt s.bars m.bar
 · obtain ⟨i, hi⟩ : ∃ i : Nat, barAt s.bars m.bar = i := ⟨(barAt s.bars m.bar).toNat, by omega⟩
   have hil := (bar_in hok hb).2
   rw [hi] at hil
   rw [e2 hb, decide_eq_true hb, hi] at hbar
   have hfw : FIn { r.form with cuts := [] } := ⟨hf.reps, hf.ends, nZl _⟩
   have h1 := inF1_spec s m i (by omega) hs.1
   have h2 := inF2_spec { r.form with cuts := [] } hfw ⟨i, m.pass⟩ (whole_form hform)
   have h3 := inF3_spec r hf ⟨i, m.pass⟩ hform
   have hr := reason_at (r := r) hi
   rw [← hr]
   clear hr e1 e2 hb
   have hfirst := first_spec [⟨97, [encMo m, encS s, [.int i]], if under m.pos (s.bars.getD i default).len then 0 else 3⟩, ⟨99, [encF { r.form with cuts := [] }, encV ⟨i, m.pass⟩], if (⟨i, m.pass⟩ : PVis) ∈ visits { r.form with cuts := [] } then 0 else 30⟩, ⟨100, [encRm r, encV ⟨i, m.pass⟩], if (⟨i, m.pass⟩ : PVis) ∈ visits r.form then 0 else 31⟩] (by show 3 ≤ 1000000000; decide) (fun k hk _ => by
    match k, hk with
    | 0, _ => exact h1
    | 1, _ => exact h2
    | 2, _ => exact h3)
   clear h1 h2 h3
   refine PCall.body Tryz.func43 rfl rfl Tryz.ntmps43 rfl rfl ?_
   repeat refine sqW ?_
   refine rgK (fun K' hK => ?_)
   repeat' (first | refine aoQ rfl rfl rfl (fun hg => by exact std0) (by exact rfl) ?_ | refine aoE (bxW rfl rfl rfl rfl rfl tI rfl rfl ?_))
   refine aoN (hK _ _ ?_)
   clear hK K'
   repeat refine sqW ?_
   refine rgK (fun K' hK => ?_)
   repeat' (first | refine aoQ rfl rfl rfl (fun hg => by first | exact std0 | exact pcW (hbar) rfl rfl nd rfl nds) (by exact rfl) ?_ | refine aoE (stW tabOk rfl rfl rfl tI rfl rfl tI rfl rfl rfl rfl rfl rfl rfl ?_) | refine aoE (alW tabOk rfl rfl rfl rfl rfl rfl ?_))
   refine aoN (hK _ _ ?_)
   clear hK K'
   repeat refine sqW ?_
   refine rgK (fun K' hK => ?_)
   repeat' (first | refine aoQ rfl rfl rfl (fun hg => by exact std0) (by exact rfl) ?_)
   refine aoN (hK _ _ ?_)
   clear hK K'
   refine cdW rfl tI (fun hc => ?_) (fun hc => ?_)
   · exfalso; simp at hc
   refine skW ?_
   repeat refine sqW ?_
   refine rgK (fun K' hK => ?_)
   repeat' (first | refine aoQ rfl rfl rfl (fun hg => by first | exact std0 | exact pbD tabOk rfl rfl nds) (by exact rfl) ?_ | refine aoE (stW tabOk rfl rfl rfl tI rfl rfl tI rfl rfl rfl rfl rfl rfl rfl ?_) | refine aoE (alW tabOk rfl rfl rfl rfl rfl rfl ?_))
   refine aoN (hK _ _ ?_)
   clear hK K'
   repeat refine sqW ?_
   refine rgK (fun K' hK => ?_)
   repeat' (first | refine aoQ rfl rfl rfl (fun hg => by exact std0) (by exact rfl) ?_ | refine aoE (stW tabOk rfl rfl rfl tI rfl rfl tI rfl rfl rfl rfl rfl rfl rfl ?_) | refine aoE (alW tabOk rfl rfl rfl rfl rfl rfl ?_))
   refine aoN (hK _ _ ?_)
   clear hK K'
   repeat refine sqW ?_
   refine rgK (fun K' hK => ?_)
   repeat' (first | refine aoQ rfl rfl rfl (fun hg => by exact std0) (by exact rfl) ?_ | refine aoE (stW tabOk rfl rfl rfl tI rfl rfl tI rfl rfl rfl rfl rfl rfl rfl ?_))
   refine aoN (hK _ _ ?_)
   clear hK K'
   refine AWP.keep [(3, .ptr 0 0), (4, .ptr 1 0), (5, .ptr 2 0), (7, .ptr 3 0), (10, .ptr 4 0), (11, .ptr 5 0)] ⟨rfl, rfl, rfl, rfl, rfl, rfl, tI⟩ ?_
   refine AWP.varWeak 5 (cs' := encF { r.form with cuts := [] }) rfl rfl nilC_ent ?_
   refine AWP.freezeV 0 rfl rfl ?_
   refine AWP.freezeV 1 rfl rfl ?_
   refine AWP.freezeV 2 rfl rfl ?_
   refine AWP.freezeV 3 rfl rfl ?_
   refine AWP.freezeV 4 rfl rfl ?_
   refine AWP.freezeV 5 rfl rfl ?_
   refine AWP.keep [(3, .iptr (encS s)), (4, .iptr (encRm r)), (5, .iptr (encMo m)), (7, .iptr [.int i]), (10, .iptr (encV ⟨i, m.pass⟩)), (11, .iptr (encF { r.form with cuts := [] }))] ⟨rfl, rfl, rfl, rfl, rfl, rfl, tI⟩ ?_
   repeat' (first | refine aoQ rfl rfl rfl (fun hg => by first | exact std0 | exact pbS tabOk rfl rfl nds | exact pcW (hfirst) rfl rfl nd rfl nds) (by exact rfl) ?_ | refine sqW ?_ | refine rgK (fun K' hK => ?_) | (refine aoN (hK _ _ ?_); clear hK K') | refine rtW ?_)
   exact ⟨.inr rfl, fun _ _ h => h⟩
 · rw [reason_no (by omega)]
   rw [decide_eq_false hb] at hbar
   refine PCall.body Tryz.func43 rfl rfl Tryz.ntmps43 rfl rfl ?_
   repeat' (first | refine aoQ rfl rfl rfl (fun hg => by first | exact std0 | exact pcW (hbar) rfl rfl nd rfl nds | exact pbD tabOk rfl rfl nds | exact PRun.ifaceA [.int .i64 32] (by kernel_rfl) rfl rfl nd) (by exact rfl) ?_ | refine sqW ?_ | refine rgK (fun K' hK => ?_) | (refine aoN (hK _ _ ?_); clear hK K') | refine aoE (bxW rfl rfl rfl rfl rfl tI rfl rfl ?_) | refine aoE (stW tabOk rfl rfl rfl tI rfl rfl tI rfl rfl rfl rfl rfl rfl rfl ?_) | refine aoE (alW tabOk rfl rfl rfl rfl rfl rfl ?_) | (refine cdN rfl tI (fun hc => ?_) (fun hc => ?_) <;> try dsimp only at hc) | refine skW ?_ | refine rtW ?_)
   · exact ⟨.inr rfl, Ent.of rfl⟩
   · exfalso; simp at hc
end Go.Proofs.YtdglbdfdkabjfaaGreatDoor.Pl
