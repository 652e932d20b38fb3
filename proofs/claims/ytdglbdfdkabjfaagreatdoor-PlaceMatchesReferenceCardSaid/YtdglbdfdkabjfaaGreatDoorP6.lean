/- The abstract program logic, part 5. No statement is proved here. -/
import Derived.Deep.AppendSrc
import Derived.Laws.Bits64
import Derived.Laws.Bits64b
import Derived.Laws.BytesArg
import Derived.Lib.ConvBytes
import Derived.RecoverIn
import Derived.Test.YtdglbdfdkabjfaaGreatDoorP3
import Derived.Test.YtdglbdfdkabjfaaGreatDoorP4
set_option linter.unusedVariables false
set_option linter.unusedSimpArgs false
/- Structs and arrays of scalars, nested, compared. -/
namespace Go.Ab
def flatFsN (P : Program) (rec : TypeId → Option (List LT)) : Nat → List Field → Option (List LT)
 | _, [] => some []
 | k, f :: r => match rec f.type with
   | some l => if f.name ≠ "_" ∧ f.offset = k ∧ l ≠ [] then (flatFsN P rec (k + l.length) r).map (l ++ ·) else none
   | none => none
def flatT (P : Program) : Nat → TypeId → Option (List LT)
 | 0, _ => none
 | k + 1, t => match P.underlying t, P.info? t with
   | some (.struct F), some i => if P.stoodInHeld t = false then (match flatFsN P (flatT P k) 0 F.toList with | some l => if i.size = l.length then some l else none | none => none) else none
   | some (.array n e), some i => match flatT P k e with
     | some l => if i.size = n * l.length ∧ l ≠ [] then some ((List.replicate n l).flatten) else none
     | none => none
   | some d, some i => if scal (ltOf P d) = true ∧ i.size = 1 then some [ltOf P d] else none
   | _, _ => none
def isAggT (P : Program) (t : TypeId) : Bool := match P.underlying t with
 | some d => (ltOf P d).isAgg
 | none => false
def flatN (P : Program) (t : TypeId) : Option (List LT) := if P.eqGuardType P.depth t = false ∧ isAggT P t = true then flatT P 8 t else none
def eqLs : List LT → List Value → List Value → Option Bool
 | [], [], [] => some true
 | t :: ts, a :: r, b :: s => match eqV t a b, eqLs ts r s with
   | some h, some u => some (h && u)
   | _, _ => none
 | _, _, _ => none
theorem eqLs_len : ∀ {ts : List LT} {us vs : List Value} {r : Bool}, eqLs ts us vs = some r → us.length = ts.length ∧ vs.length = ts.length
 | [], [], [], _, _ => ⟨rfl, rfl⟩
 | t :: ts, a :: us, b :: vs, r, h => by
   simp only [eqLs] at h
   split at h
   · rename_i g1 g2
     have := eqLs_len g2
     simp [this.1, this.2]
   · simp at h
theorem eqLs_append : ∀ {ts us : List LT} {xs ys : List Value} {r : Bool}, eqLs (ts ++ us) xs ys = some r → ∃ a b, eqLs ts (xs.take ts.length) (ys.take ts.length) = some a ∧ eqLs us (xs.drop ts.length) (ys.drop ts.length) = some b ∧ r = (a && b)
 | [], us, xs, ys, r, h => ⟨true, r, by simp [eqLs], by simpa using h, by simp⟩
 | t :: ts, us, [], _, r, h => by simp [eqLs] at h
 | t :: ts, us, _ :: _, [], r, h => by simp [eqLs] at h
 | t :: ts, us, x :: xs, y :: ys, r, h => by
   simp only [zD7, eqLs] at h
   split at h
   · rename_i h0 u0 g1 g2
     obtain ⟨a, b, e1, e2, e3⟩ := eqLs_append g2
     simp only [Option.some.injEq] at h; subst h; subst e3
     exact ⟨h0 && a, b, by simp [eqLs, g1, e1], by simpa using e2, by rw [Bool.and_assoc]⟩
   · simp at h
def valT (P : Program) (t : TypeId) (l : List Value) : Value := match P.underlying t with
 | some d => if (ltOf P d).isAgg then .agg l.toArray else l.headD undef
 | none => undef
theorem ltOf_isAgg {P : Program} {d : TypeDesc} : (ltOf P d).isAgg = true ↔ (∃ F, d = .struct F) ∨ ∃ n e, d = .array n e := by
 cases d <;> simp [ltOf, LT.isAgg]
theorem flatT_info {P : Program} : ∀ {k : Nat} {t : TypeId} {ts : List LT}, flatT P k t = some ts → ∃ d i, P.underlying t = some d ∧ P.info? t = some i ∧ i.size = ts.length ∧ ((ltOf P d).isAgg = false → scal (ltOf P d) = true ∧ ts = [ltOf P d])
 | 0, _, _, h => by simp [flatT] at h
 | k + 1, t, ts, h => by
   simp only [flatT] at h
   split at h
   · rename_i F i hu hi
     split at h
     · split at h
       · split at h
         · rename_i h1; simp only [Option.some.injEq] at h; subst h
           exact ⟨_, _, hu, hi, h1, fun e => by simp [ltOf, LT.isAgg] at e⟩
         · simp at h
       · simp at h
     · simp at h
   · rename_i n e i hu hi
     split at h
     · rename_i l hl
       split at h
       · rename_i h1; simp only [Option.some.injEq] at h; subst h
         exact ⟨_, _, hu, hi, by rw [h1.1]; simp, fun e => by simp [ltOf, LT.isAgg] at e⟩
       · simp at h
     · simp at h
   · rename_i hn1 hn2 hu hi
     split at h
     · rename_i h1; simp only [Option.some.injEq] at h; subst h
       exact ⟨_, _, hu, hi, by simpa using h1.2, fun _ => ⟨h1.1, rfl⟩⟩
     · simp at h
   · simp at h
theorem run_part {P : Program} {k : Nat} {t : TypeId} {ts : List LT} (hfl : flatT P k t = some ts) (cs : Array Value) (off : Nat) (h : off + ts.length ≤ cs.size) (w : World) :
 (part t cs off).run P w = .ok (valT P t ((cs.toList.drop off).take ts.length)) w := by
 obtain ⟨d, i, hu, hi, hs, hsc⟩ := flatT_info hfl
 have ha : (isAgg t).run P w = .ok (ltOf P d).isAgg w := by
  unfold isAgg
  rw [Sem.run_bind, run_underlying hu w]
  cases d <;> rfl
 unfold part valT
 rw [Sem.run_bind, ha, hu]
 simp only [Result.andThen_ok]
 cases hag : (ltOf P d).isAgg with
 | true =>
   simp only [if_true, Sem.run_bind]
   have hz : (sizeOf t).run P w = .ok ts.length w := by simp [sizeOf, typeInfo, hi, hs]
   rw [hz]
   simp only [Result.andThen_ok, Sem.run_pure]
   congr 2
   apply Array.toList_inj.1
   simp [Array.toList_extract, List.extract_eq_take_drop]
 | false =>
   obtain ⟨_, rfl⟩ := hsc hag
   simp only [zBw] at h ⊢
   have hlt : off < cs.size := by omega
   simp only [zAq, if_false]
   have e : (List.take 1 (List.drop off cs.toList)).headD undef = cs[off] := by
    rw [zBf (by simpa using hlt)]
    simp
   rw [e]
   simp [hlt]
theorem run_eqFN {P : Program} (n : Nat) (w : World) (k0 : Nat) (xs ys : Array Value)
    (hrec : ∀ (t : TypeId) (ts : List LT), flatT P k0 t = some ts → ∀ (as bs : List Value) (r : Bool), eqLs ts as bs = some r → (Op.equalIn n t (valT P t as) (valT P t bs)).run P w = .ok r w) :
    ∀ (F : List Field) (k : Nat) (ts : List LT) (r : Bool), flatFsN P (flatT P k0) k F = some ts → k + ts.length ≤ xs.size → k + ts.length ≤ ys.size → eqLs ts ((xs.toList.drop k).take ts.length) ((ys.toList.drop k).take ts.length) = some r →
    (do for f in F do
          if f.name ≠ "_" then
            if !(← Op.equalIn n f.type (← part f.type xs f.offset) (← part f.type ys f.offset)) then return false
        pure true : Sem Bool).run P w = .ok r w := by
  intro F
  induction F with
  | nil =>
    intro k ts r h1 _ _ h2
    simp only [flatFsN, Option.some.injEq] at h1; subst h1
    simp [eqLs] at h2; subst h2; rfl
  | cons f F ih =>
    intro k ts r h1 hx hy h2
    simp only [flatFsN] at h1
    split at h1
    · rename_i l hl
      split at h1
      · rename_i hc
        obtain ⟨c1, c2, c3⟩ := hc
        simp only [zA3] at h1
        obtain ⟨l2, hF, rfl⟩ := h1
        simp only [zC0] at hx hy
        obtain ⟨a, b, e1, e2, rfl⟩ := eqLs_append h2
        have p1 := run_part hl xs k (by omega) w
        have p2 := run_part hl ys k (by omega) w
        have t1 : ∀ zs : List Value, (((zs.drop k).take (l ++ l2).length).take l.length) = (zs.drop k).take l.length := fun zs => by
          rw [List.take_take]; congr 1; simp
        have t2 : ∀ zs : List Value, (((zs.drop k).take (l ++ l2).length).drop l.length) = (zs.drop (k + l.length)).take l2.length := fun zs => by
          rw [List.drop_take, List.drop_drop]; congr 1; simp
        rw [t1, t1] at e1
        rw [t2, t2] at e2
        have e3 := hrec _ _ hl _ _ _ e1
        have ih' := ih (k + l.length) l2 b hF (by omega) (by omega) e2
        simp only [List.forIn_cons, c2]
        cases a with
        | true =>
          simp only [zBd]
          rw [← ih']
          simp only [ne_eq, c1, not_false_eq_true, if_true, Sem.run_bind, p1, p2, e3, Result.andThen_ok]
          simp
        | false =>
          simp only [ne_eq, c1, not_false_eq_true, if_true, Sem.run_bind, p1, p2, e3, Result.andThen_ok]
          simp
      · simp at h1
    · simp at h1
theorem run_eqAN {P : Program} (n : Nat) (w : World) (k0 : Nat) (e : TypeId) (l : List LT) (hl : flatT P k0 e = some l) (xs ys : Array Value)
    (hrec : ∀ (as bs : List Value) (r : Bool), eqLs l as bs = some r → (Op.equalIn n e (valT P e as) (valT P e bs)).run P w = .ok r w) :
    ∀ (m i0 : Nat) (r : Bool), (i0 + m) * l.length ≤ xs.size → (i0 + m) * l.length ≤ ys.size → eqLs ((List.replicate m l).flatten) ((xs.toList.drop (i0 * l.length)).take (m * l.length)) ((ys.toList.drop (i0 * l.length)).take (m * l.length)) = some r →
    (do for i in List.range' i0 m do
          if !(← Op.equalIn n e (← part e xs (i * l.length)) (← part e ys (i * l.length))) then return false
        pure true : Sem Bool).run P w = .ok r w := by
  intro m
  induction m with
  | zero =>
    intro i0 r _ _ h
    simp [eqLs] at h; subst h; rfl
  | succ m ih =>
    intro i0 r hx hy h
    rw [List.replicate_succ, List.flatten_cons] at h
    obtain ⟨a, b, e1, e2, rfl⟩ := eqLs_append h
    have hm : (i0 + (m + 1)) * l.length = i0 * l.length + l.length + m * l.length := by rw [zAx, zAx]; omega
    have hm2 : (m + 1) * l.length = l.length + m * l.length := by rw [zAx]; omega
    have hm3 : (i0 + 1) * l.length = i0 * l.length + l.length := by rw [zAx]; omega
    have hm4 : (i0 + 1 + m) * l.length = i0 * l.length + l.length + m * l.length := by rw [zAx, zAx]; omega
    have p1 := run_part hl xs (i0 * l.length) (by omega) w
    have p2 := run_part hl ys (i0 * l.length) (by omega) w
    have t1 : ∀ zs : List Value, (((zs.drop (i0 * l.length)).take ((m + 1) * l.length)).take l.length) = (zs.drop (i0 * l.length)).take l.length := fun zs => by
      rw [List.take_take]; congr 1; omega
    have t2 : ∀ zs : List Value, (((zs.drop (i0 * l.length)).take ((m + 1) * l.length)).drop l.length) = (zs.drop ((i0 + 1) * l.length)).take (m * l.length) := fun zs => by
      rw [List.drop_take, List.drop_drop]; congr 1
      · omega
      · rw [hm3]
    rw [t1, t1] at e1
    rw [t2, t2] at e2
    have e3 := hrec _ _ _ e1
    have ih' := ih (i0 + 1) b (by omega) (by omega) e2
    simp only [List.range'_succ, List.forIn_cons]
    cases a with
    | true =>
      simp only [zBd]
      rw [← ih']
      simp only [Sem.run_bind, p1, p2, e3, Result.andThen_ok]
      simp
    | false =>
      simp only [Sem.run_bind, p1, p2, e3, Result.andThen_ok]
      simp
theorem run_eqT {P : Program} (w : World) : ∀ (k : Nat) (t : TypeId) (ts : List LT), flatT P k t = some ts → ∀ n, k ≤ n → ∀ (as bs : List Value) (r : Bool), eqLs ts as bs = some r → (Op.equalIn n t (valT P t as) (valT P t bs)).run P w = .ok r w
 | 0, _, _, h, _, _, _, _, _, _ => by simp [flatT] at h
 | k + 1, t, ts, h, 0, hn, _, _, _, _ => by omega
 | k + 1, t, ts, h, n + 1, hn, as, bs, r, he => by
   have hrec := run_eqT (P := P) w k
   simp only [flatT] at h
   obtain ⟨l1, l2⟩ := eqLs_len he
   split at h
   · rename_i F i hu hi
     split at h
     · rename_i hsi
       split at h
       · rename_i l hF
         split at h
         · rename_i h1; simp only [Option.some.injEq] at h; subst h
           have hv : ∀ z : List Value, valT P t z = .agg z.toArray := fun z => by simp [valT, hu, ltOf, LT.isAgg]
           rw [hv, hv]
           have e := run_eqFN n w k as.toArray bs.toArray (fun t ts h as bs r he => hrec t ts h n (by omega) as bs r he) F.toList 0 l r hF (by simp [l1]) (by simp [l2]) (by simp only [List.drop_zero]; rw [zAi (by omega), zAi (by omega)]; exact he)
           rw [Op.equalIn, Sem.run_bind, run_underlying hu w]
           simp only [Result.andThen_ok]
           simp only [Sem.run_bind, run_program, Result.andThen_ok, hsi, zAq, if_false]
           obtain ⟨L, rfl⟩ : ∃ L, F = List.toArray L := ⟨F.toList, by simp⟩
           simp only [List.forIn_toArray]
           simpa [Sem.run_bind] using e
         · simp at h
       · simp at h
     · simp at h
   · rename_i m e i hu hi
     split at h
     · rename_i l hl
       split at h
       · rename_i h1; simp only [Option.some.injEq] at h; subst h
         have hv : ∀ z : List Value, valT P t z = .agg z.toArray := fun z => by simp [valT, hu, ltOf, LT.isAgg]
         rw [hv, hv]
         have hlen : ((List.replicate m l).flatten).length = m * l.length := by simp
         rw [hlen] at l1 l2
         have e9 := run_eqAN n w k e l hl as.toArray bs.toArray (fun as bs r he => hrec _ _ hl n (by omega) as bs r he) m 0 r (by simp [l1]) (by simp [l2]) (by
          simp only [zDe, List.drop_zero]
          rw [← l1, zBl, l1, ← l2, zBl]; exact he)
         obtain ⟨_, i2, hu2, hi2, hs2, _⟩ := flatT_info hl
         have hz : (sizeOf e).run P w = .ok l.length w := by simp [sizeOf, typeInfo, hi2, hs2]
         rw [Op.equalIn, Sem.run_bind, run_underlying hu w]
         simp only [Result.andThen_ok]
         rw [Sem.run_bind, hz]
         simp only [Result.andThen_ok]
         simp only [Std.Legacy.Range.forIn_eq_forIn_range', Std.Legacy.Range.size]
         simpa [Sem.run_bind] using e9
       · simp at h
     · simp at h
   · rename_i d i hn1 hn2 hu hi
     split at h
     · rename_i h1; simp only [Option.some.injEq] at h; subst h
       have hag : (ltOf P d).isAgg = false := by
        cases hh : (ltOf P d).isAgg with
        | false => rfl
        | true =>
          rcases ltOf_isAgg.1 hh with ⟨F, rfl⟩ | ⟨m, e, rfl⟩
          · exact (hn1 _ rfl).elim
          · exact (hn2 _ _ rfl).elim
       match as, bs, he with
       | [a], [b], he =>
         simp only [eqLs] at he
         split at he
         · rename_i h0 u0 g1 g2
           simp at g2; subst g2
           simp at he; subst he
           have hv : ∀ z : Value, valT P t [z] = z := fun z => by simp [valT, hu, hag]
           rw [hv, hv]
           exact run_eqV hu g1 n w
         · simp at he
     · simp at h
   · simp at h
theorem eqVs_vals {M : Mem} {B : List GB} : ∀ {ts : List LT} {us vs : List AV} {r : Bool} {xs ys : List Value}, eqVs ts us vs = some r → xs.length = us.length → ys.length = vs.length → (∀ i c, us[i]? = some c → VRel M B c (xs.getD i undef)) → (∀ i c, vs[i]? = some c → VRel M B c (ys.getD i undef)) → eqLs ts xs ys = some r
 | [], [], [], r, [], [], h, _, _, _, _ => by simp [eqVs] at h; subst h; rfl
 | [], [], [], _, _ :: _, _, _, h, _, _, _ => by simp at h
 | [], [], [], _, [], _ :: _, _, _, h, _, _ => by simp at h
 | t :: ts, .prim a :: us, .prim b :: vs, r, [], _, h, hl, _, _, _ => by simp at hl
 | t :: ts, .prim a :: us, .prim b :: vs, r, _ :: _, [], h, _, hl, _, _ => by simp at hl
 | t :: ts, .prim a :: us, .prim b :: vs, r, x :: xs, y :: ys, h, h1, h2, hx, hy => by
   simp only [eqVs] at h
   split at h
   · rename_i h0 u0 g1 g2
     simp only [Option.some.injEq] at h; subst h
     have ex := VRel.prim_eq (hx 0 _ rfl)
     have ey := VRel.prim_eq (hy 0 _ rfl)
     simp at ex ey; subst ex; subst ey
     have := eqVs_vals g2 (xs := xs) (ys := ys) (by simpa using h1) (by simpa using h2) (fun i c hi => by simpa using hx (i + 1) c (by simpa using hi)) (fun i c hi => by simpa using hy (i + 1) c (by simpa using hi))
     simp [eqLs, g1, this]
   · simp at h
theorem run_eqN {P : Program} {t : TypeId} {ts : List LT} (hfl : flatN P t = some ts) {M : Mem} {B : List GB} {us vs : List AV} {x y : Value} {r : Bool} (hx : VRel M B (.agg us) x) (hy : VRel M B (.agg vs) y) (h : eqVs ts us vs = some r) (w : World) :
 ∃ xs ys, x = .agg xs ∧ y = .agg ys ∧ P.eqGuardType P.depth t = false ∧ (Op.equal t x y).run P w = .ok r w := by
 unfold flatN at hfl
 split at hfl
 · rename_i hg
   cases hx with
   | agg _ xs hl hr => cases hy with
     | agg _ ys hl' hr' =>
       refine ⟨xs, ys, rfl, rfl, hg.1, ?_⟩
       have e := run_eqT w 8 t ts hfl 10000 (by decide) xs.toList ys.toList r (eqVs_vals h (by simpa using hl) (by simpa using hl') (fun i c hi => by simpa [zA2, List.getD] using hr i c hi) (fun i c hi => by simpa [zA2, List.getD] using hr' i c hi))
       have hv : ∀ z : Array Value, valT P t z.toList = .agg z := fun z => by
        have h2 := hg.2
        unfold isAggT at h2
        unfold valT
        split at h2
        · rename_i d hd; simp [h2]
        · simp at h2
       rw [hv, hv] at e
       exact e
 · simp at hfl
section
variable {P : Program} {T : Tab} {o : Oper} {env : Env} {σ : Store}
theorem PRun.eqN {t t' : TypeId} {ts : List LT} (hfl : flatN P t = some ts) {x y : Operand} {us vs : List AV} {r : Bool} (ho : o.op = .binOp .eql t x y t') (hx : rdv env x = some (.agg us)) (nx : rdn env x) (hy : rdv env y = some (.agg vs)) (ny : rdn env y) (h : eqVs ts us vs = some r) :
    PRun P o env σ (.b r) :=
  .of fun G A w hs hv => by
    have h1 := rd (Rd.w hx nx) (by simp [ho, Op.operands]) hv
    have h2 := rd (Rd.w hy ny) (by simp [ho, Op.operands]) hv
    obtain ⟨xs, ys, e1, e2, hg, e3⟩ := run_eqN hfl h1 h2 h w
    refine ⟨_, ?_, .prim _⟩
    rw [e1, e2] at e3
    have e : binOp .eql t (.agg xs) (.agg ys) = (do pure (.bool (← Op.equal t (.agg xs) (.agg ys)))) := rfl
    simp only [execOp, ho, e1, e2, e]
    simp [eqGuard, hg, e3]
theorem PRun.neN {t t' : TypeId} {ts : List LT} (hfl : flatN P t = some ts) {x y : Operand} {us vs : List AV} {r : Bool} (ho : o.op = .binOp .neq t x y t') (hx : rdv env x = some (.agg us)) (nx : rdn env x) (hy : rdv env y = some (.agg vs)) (ny : rdn env y) (h : eqVs ts us vs = some r) :
    PRun P o env σ (.b (!r)) :=
  .of fun G A w hs hv => by
    have h1 := rd (Rd.w hx nx) (by simp [ho, Op.operands]) hv
    have h2 := rd (Rd.w hy ny) (by simp [ho, Op.operands]) hv
    obtain ⟨xs, ys, e1, e2, hg, e3⟩ := run_eqN hfl h1 h2 h w
    refine ⟨_, ?_, .prim _⟩
    rw [e1, e2] at e3
    have e : binOp .neq t (.agg xs) (.agg ys) = (do pure (.bool (!(← Op.equal t (.agg xs) (.agg ys))))) := rfl
    simp only [execOp, ho, e1, e2, e]
    simp [eqGuard, hg, e3]
end
end Go.Ab
/- Bits and shifts; interface values; bytes, texts and runes; places in arrays. -/
namespace Go.Ab
section
variable {P : Program} {o : Oper} {env : Env} {σ : Store} {T : Tab}
def notIface (P : Program) (t : TypeId) : Bool := match P.underlying t with
 | some (.interface _) => false
 | some _ => true
 | none => false
theorem SRel.newStay {G : Gh} {w w' : World} (h : SRel G σ w) (c : Array Value) (hsz : w'.heap.size = w.heap.size + 1) (hold : ∀ b, b < w.heap.size → w'.heap[b]? = w.heap[b]?) (hnew : ∀ o v, c[o]? = some v → w'.cell? ⟨w.heap.size, o, none⟩ = some v) (hout : OutR w w') :
 SRel { G with M := G.M.addBlk w.heap.size c } σ w' ∧ G.M.Le (G.M.addBlk w.heap.size c) := by
 have hlt := mem_lt h.memok
 have hle := Mem.le_addBlk (M := G.M) (b := w.heap.size) c (hlt _ (zAh _)).1
 refine ⟨h.after ⟨hle, ⟨fun b o v hv => ?_, fun b es hb => ?_, h.memok.g.mono hle⟩, by omega, hold, fun b hb => ⟨fun o => ?_, rfl⟩, hout⟩, hle⟩
 · simp only [Mem.addBlk] at hv
   split at hv
   · rename_i e; subst e; exact hnew o v hv
   · have h1 := h.memok.1 _ _ _ hv
     have h2 := World.block_lt_of_cell? _ _ h1
     simp only [World.cell?] at h1 ⊢
     rw [hold b h2]; exact h1
 · obtain ⟨clock, h1⟩ := h.memok.2 _ _ hb
   have h2 : b < w.heap.size := by
    rcases zA5 b w.heap.size with h | h
    · exact h
    · simp [zAm h] at h1
   exact ⟨clock, by rw [hold b h2]; exact h1⟩
 · simp only [Mem.addBlk]
   rw [if_neg (by omega)]
end
end Go.Ab
/- Operations and calls that panic; contracts of calls that panic. -/
namespace Go.Ab
def uponP (P : Program) (K : List PanicEntry → World → Prop) : Result Next → Prop
 | .ok (.enter f args) w' => Calls P f args w' fun
  | .panicked ch, w'' => K ch w''
  | _, _ => False
 | .halt (.panic v) w' => K [{ v, recovered := false }] w'
 | _ => False
def DStep (P : Program) (n : Nat) (ops : Array Oper) (o : Oper) (kp : List PanicEntry → Store → Prop) (env : Env) (σ : Store) : Prop :=
 (∀ c, o.op ≠ .defer c) ∧ ∀ G a w, ARel n G env σ a w → Region.wanted o (yielded ops a.tmps) = true ∧ uponP P (fun ch w' => ∃ σ' G', kp ch σ' ∧ G.Le G' ∧ ARel n G' env σ' a w') ((execOp a.eval o).run P w)
section
variable {P : Program} {n : Nat} {ops : Array Oper} {o : Oper} {env : Env} {σ : Store} {kp : List PanicEntry → Store → Prop}
end
end Go.Ab
/- Functions that defer a call, and deferred functions that recover. -/
namespace Go.Ab
structure FV where
 f : FuncId
 avs : List AV
structure Gh.Le0 (G G' : Gh) : Prop where
 m0 : G'.M0 = G.M0
 w0 : G'.w0 = G.w0
 m : G.M.Le G'.M
 b : BLe G.B G'.B
 d : ∀ x ∈ G.D, x ∈ G'.D
 r : G'.R = G.R
section
variable {P : Program} {n : Nat} {F : Option FV} {K : Exit → Option FV → Env → Store → Prop} {env : Env} {σ : Store}
end
end Go.Ab
/- Arrays of the call's own that are written out; places in arrays; slices of arrays; more cuts. -/
namespace Go.Ab
section
variable {P : Program} {n : Nat} {ops : Array Oper} {o : Oper} {env : Env} {σ : Store} {T : Tab} {k : Env → Store → Prop}
theorem fillA_len : ∀ {ps : List (Nat × List AV)} {cells r : List AV} {pl : Nat → Option (Nat × Nat)}, fillA pl cells ps = some r → r.length = cells.length
 | [], cells, r, pl, h => by simp [fillA] at h; rw [h]
 | (i, us) :: ps, cells, r, pl, h => by
   simp only [fillA] at h
   split at h
   · split at h
     · rename_i hle
       rw [fillA_len h]; simp [splice]; omega
     · simp at h
   · simp at h
theorem run_buildRow {t e m : Nat} {parts : Array (Nat × Operand)} {s1 b1 : Nat} {z : List Z} {le : LI} {ps : List (Nat × List AV)} {r : List AV} (ho : o.op = .buildSlice t m parts) (hl : LOk P t ⟨.slice e, s1, b1, z⟩) (he : LOk P e le) (hz0 : le.zero.length = le.size)
 (hn1 : m * le.size ≤ 16777216) (hp : partsF env parts.toList = some ps) (hn : rdns env (parts.toList.map (·.2))) (hf : fillA (fun i => some (i * le.size, le.size)) ((List.range (m * le.size)).map fun i => (le.zero.map Z.av).getD (i % le.size) .any) ps = some r)
 {G : Gh} {A : Act} {w : World} (hv : ∀ x ∈ o.op.operands, VRel G.M G.B (envOp env x) (A.eval x)) :
 ∃ vr : Array Value, (execOp A.eval o).run P w = .ok (.value (.slice (some ⟨w.heap.size, 0, none⟩) m m)) (w.alloc (.cells vr e)) ∧ vr.size = m * le.size ∧ r.length = m * le.size ∧ ∀ (i : Nat) c, r[i]? = some c → VRel G.M G.B c (vr.getD i undef) := by
 obtain ⟨h1, h2⟩ := partsF_rel (o := o) (M := G.M) (B := G.B) (a := A) hp (fun p hp => by simp [ho, Op.operands]; exact ⟨p.1, by simpa using hp⟩) hn hv
 have hzc : le.zeroVal.cells = (le.zero.map Z.val).toArray := by
  unfold LI.zeroVal
  cases ha : le.lt.isAgg with
  | true => rfl
  | false =>
    obtain ⟨z', hz'⟩ := he.one ha
    rw [hz']; cases z' <;> rfl
 have hzr : ∀ z : Z, VRel G.M G.B z.av z.val := fun z => by cases z <;> first | exact .prim _ | exact .nils | exact .imapz
 have hzs : le.zeroVal.cells.size = le.size := by rw [hzc]; simp [hz0]
 let zero : Array Value := if m * le.size = 0 then #[] else le.zeroVal.cells
 obtain ⟨vr, h3, h4, h5⟩ := fill_rel (M := G.M) (B := G.B) ps (parts.toList.map fun (i, x) => (i, A.eval x)) _ ((Array.range (m * le.size)).map (zero[· % zero.size]!)) r hf (by simp) (fun i c hi => by
  simp only [zA9, zA3] at hi
  obtain ⟨j, hj, rfl⟩ := hi
  have hjr := zAb.1 hj
  obtain ⟨hlt, hje⟩ := hjr
  simp at hlt hje; subst hje
  have hn0 : ¬ m * le.size = 0 := by omega
  have hpos : 0 < le.size := Nat.pos_of_mul_pos_left (by omega : 0 < m * le.size)
  have hmod : i % le.size < le.zero.length := by rw [hz0]; exact zCv _ hpos
  have ez : zero = le.zeroVal.cells := if_neg hn0
  have e1 : (((Array.range (m * le.size)).map (zero[· % zero.size]!)).getD i undef) = le.zero[i % le.size].val := by
   rw [ez]
   simp only [zA2, Array.getElem?_map]
   rw [Array.getElem?_range, if_pos hlt]
   simp only [zBc, zC7, hzs]
   rw [hzc]
   simp [hmod]
  have e2 : (le.zero.map Z.av).getD (i % le.size) .any = le.zero[i % le.size].av := by simp [List.getD, hmod]
  rw [e1, e2]; exact hzr _) (by simp [h1]) (fun i p q hi hq => h2 i p q hi hq)
 have hlen := fillA_len hf
 simp at hlen
 refine ⟨vr, ?_, by rw [h4, hlen], hlen, h5⟩
 simp only [execOp, ho, Instr.buildSlice]
 rw [Sem.run_bind, Sem.run_bind, hl.slice w]
 simp only [Result.andThen_ok]
 rw [Sem.run_bind, he.run_size w]
 simp only [Result.andThen_ok]
 have hno : ¬ m * le.size > 2 ^ 24 := by omega
 simp only [if_neg hno]
 have e2 : (parts.map fun (i, x) => (i, A.eval x)).toList = parts.toList.map fun (i, x) => (i, A.eval x) := by simp
 by_cases hm0 : m * le.size = 0
 · have ez : zero = #[] := if_pos hm0
   simp only [if_pos hm0, Sem.run_bind, Sem.run_pure, Result.andThen_ok]
   rw [ez] at h3
   rw [e2, h3]
   simp [newRow]
 · have ez : zero = le.zeroVal.cells := if_neg hm0
   simp only [if_neg hm0, Sem.run_bind, Sem.run_pure, Result.andThen_ok, he.run_zero w]
   rw [ez] at h3
   rw [e2, h3]
   simp [newRow]
def rowF (T : Tab) (env : Env) (t m : Nat) (parts : List (Nat × Operand)) : Option (Nat × List (List AV)) := match T.get t with
 | some ⟨.slice e, _, _, _⟩ => match T.get e, partsF env parts with
   | some le, some ps => if le.zero.length = le.size ∧ m * le.size ≤ 16777216 then
    (match fillA (fun i => some (i * le.size, le.size)) ((List.range (m * le.size)).map fun i => (le.zero.map Z.av).getD (i % le.size) .any) ps with
    | some r => (forceLL (chunk le.size m r)).map fun es => (le.size, es)
    | none => none) else none
   | _, _ => none
 | _ => none
theorem rowF_spec (hT : T.Ok P) {t m : Nat} {parts : Array (Nat × Operand)} {sz : Nat} {es : List (List AV)} (h : rowF T env t m parts.toList = some (sz, es)) (ho : o.op = .buildSlice t m parts) (hn : rdns env (parts.toList.map (·.2)))
 {G : Gh} {A : Act} {w : World} (hv : ∀ x ∈ o.op.operands, VRel G.M G.B (envOp env x) (A.eval x)) :
 ∃ (vr : Array Value) (e : TypeId), (execOp A.eval o).run P w = .ok (.value (.slice (some ⟨w.heap.size, 0, none⟩) m m)) (w.alloc (.cells vr e)) ∧ vr.size = m * sz ∧ es.length = m ∧ (∀ x ∈ es, x.length = sz) ∧
  ∀ (i j : Nat) (x : List AV) (c : AV), es[i]? = some x → x[j]? = some c → VRel G.M G.B c (vr.getD (i * sz + j) undef) := by
 unfold rowF at h
 split at h
 · rename_i e s b zs hg
   split at h
   · rename_i le ps hle hp
     split at h
     · rename_i hc
       split at h
       · rename_i r' hf
         simp only [zA3, Prod.mk.injEq] at h
         obtain ⟨r2, h2, rfl, rfl⟩ := h
         obtain ⟨vr, k1, k2, k3, k4⟩ := run_buildRow (w := w) ho (LOk.of (hT.get hg)) (LOk.of (hT.get hle)) hc.1 hc.2 hp hn hf hv
         have hcl := chunk_length le.size m r'
         rw [← forceLL_eq h2]
         have get : ∀ i, i < m → (chunk le.size m r')[i]? = some ((r'.drop (i * le.size)).take le.size) := fun i hi => chunk_get le.size m r' i hi
         have bound : ∀ i, i < m → i * le.size + le.size ≤ m * le.size := fun i hi => by
          have := zAp le.size (show i + 1 ≤ m from hi)
          rwa [zAx, zCz] at this
         refine ⟨vr, e, k1, k2, hcl, fun x hx => ?_, fun i j x c hi hj => ?_⟩
         · obtain ⟨i, hi, hie⟩ := zB0.1 hx
           rw [hcl] at hi
           have := get i hi
           rw [zA1 (by omega)] at this
           simp at this
           rw [← hie, this]
           have := bound i hi
           simp; omega
         · have hin : i < m := by
            rcases zA5 i m with h | h
            · exact h
            · rw [zA4 (by omega)] at hi; simp at hi
           rw [get i hin] at hi
           simp at hi; subst hi
           rw [zAw] at hj
           split at hj
           · rw [zB2] at hj
             exact k4 _ _ hj
           · simp at hj
       · simp at h
     · simp at h
   · simp at h
 · simp at h
theorem EStep.buildArr (hT : T.Ok P) {t m d sz : Nat} {parts : Array (Nat × Operand)} {es : List (List AV)} (ho : o.op = .buildSlice t m parts) (hg : o.guard = none) (hd : o.dst = some d) (hdn : decide (d < n) = true) (h : rowF T env t m parts.toList = some (sz, es)) (hn : rdns env (parts.toList.map (·.2)))
 (hk : k (env.put d (.sla σ.length sz 0 m 0)) (σ ++ [.arr sz 0 es])) : EStep P n ops o k env σ := by
 refine EStep.plain hg fun G a w hr => ?_
 obtain ⟨vr, e, k1, k2, k3, k4, k5⟩ := rowF_spec (w := w) hT h ho hn (G := G) (A := a) (operands_rel hr.st fun x _ => hr.vals x)
 unfold OWP
 rw [k1]
 have hm := mem_lt hr.st.memok
 have hle : BLe G.B (G.B ++ [GB.own (some w.heap.size) m 0]) := BLe.append _ _
 have hs2 := hr.st.alloc (o := .cells vr e) (g := .own (some w.heap.size) m 0) (ao := .arr sz 0 es) rfl (.arr w.heap.size m sz 0 es vr e (0, 0) (by rw [heap_alloc, if_pos rfl]) (by intro o _; simp) k2 (by omega) k4 (fun i j x c h1 h2 => (k5 i j x c h1 h2).mono (Mem.Le.refl _) hle) (hm _ (zAh _)).1)
 refine ⟨_, _, _, hk, .upB hle, ?_⟩
 rw [hd]
 have hr' : ARel n { G with B := G.B ++ [GB.own (some w.heap.size) m 0] } env (σ ++ [.arr sz 0 es]) a (w.alloc (.cells vr e)) := hr.later (.upB hle) hs2
 refine hr'.put (of_decide_eq_true hdn) ?_
 refine .sla σ.length sz 0 m 0 _ m ⟨some w.heap.size, m, 0, ?_, zAh _, fun _ => ⟨by omega, .inr ⟨by omega, by simp⟩⟩⟩
 rw [← hr.st.len]; simp
theorem PRun.buildSl0 (hT : T.Ok P) {t sz : Nat} (ho : o.op = .buildSlice t 0 #[]) (hsz : elemSz T t = some sz) : PRun P o env σ (.sl sz [] .fresh) := by
 intro G A w hs hv
 obtain ⟨e, s1, b1, z, li, hl, hli, h1⟩ := elemSz_spec hT hsz
 have hrun : (execOp A.eval o).run P w = .ok (.value (.slice (some ⟨w.heap.size, 0, none⟩) 0 0)) (w.alloc (.cells #[] e)) := by
  simp only [execOp, ho, Instr.buildSlice]
  rw [Sem.run_bind, Sem.run_bind, hl.slice w]
  simp only [Result.andThen_ok]
  rw [Sem.run_bind, hli.run_size w]
  simp [Instr.fill, newRow]
  rw [show (Array.range 0).map (fun _ => (default : Value)) = #[] from zBo (by simp)]
 obtain ⟨hs1, hleM⟩ := hs.newStay #[] (w' := w.alloc (.cells #[] e)) (by simp) (fun b hb => by rw [heap_alloc, if_neg (by omega)]) (fun o v hv => by simp at hv) OutR.r
 unfold OWP
 rw [hrun]
 exact ⟨_, _, rfl, .sl sz [] .fresh w.heap.size 0 0 (fun _ _ => undef) (by simp) (by simp) (by simp) (zAh _) rfl, .upM hleM, hs1⟩
end
end Go.Ab
/- An own array out of an append; places in arrays and slices of arrays; arrays out of slices; runes. -/
namespace Go.Ab
theorem one_ints (l : List Int) : ∀ x ∈ l.map (fun n => [AV.int n]), x.all oneAV = true := fun x hx => by
 obtain ⟨c, _, rfl⟩ := zB4.1 hx; rfl
section
variable {P : Program} {n : Nat} {ops : Array Oper} {o : Oper} {env : Env} {σ : Store} {T : Tab} {k : Env → Store → Prop}
theorem EStep.appendArrF (hT : T.Ok P) {s x : Operand} {t tx e : TypeId} {d sz : Nat} {es2 : List (List AV)} {u : AV} {s1 b1 : Nat} {z : List Z} {le : LI} (ho : o.op = .call { callee := .builtin .append, args := #[s, x], argTypes := #[t, tx] })
 (hg : o.guard = none) (hd : o.dst = some d) (hdn : decide (d < n) = true) (hs : Rd env s (.sl sz [] .fresh)) (hx : Rd env x u) (hsrc : AppSrc T tx sz u es2)
 (hl : LOk P t ⟨.slice e, s1, b1, z⟩) (he : LOk P e le) (hsz : le.size = sz) (hz0 : le.zero.length = le.size) (hbound : es2.length * le.bytes ≤ 140737488355328) (hb2 : es2.length ≤ 9223372036854775807)
 (hk : k (env.put d (.sla σ.length sz 0 es2.length 0)) (σ ++ [.arr sz 0 es2])) : EStep P n ops o k env σ := by
 refine EStep.plain hg fun G a w hr => ?_
 have h1 := hr.rd hs
 obtain ⟨news, hS, hN⟩ := hsrc.src hT hr.st.memok (hr.rd hx)
 generalize hA : a.eval s = sv at h1
 obtain ⟨i, hi1, hi2, hi3, hi4⟩ := he.info
 have hund := hl.undSlice
 have hS' : Src P i.size tx (a.eval x) es2.length news w := by rw [hi2, hsz]; exact hS
 have hNs : news.length = es2.length * sz := by have := hN.1; simpa using this
 have hsv : ∃ ad, sv = .slice ad 0 0 := by
  cases h1 with
  | sl _ _ _ b off cap f hz hm hr hc ht => exact ⟨_, by rw [show cap = 0 from ht]; rfl⟩
  | slz => exact ⟨none, rfl⟩
 obtain ⟨ad, rfl⟩ := hsv
 have hlenG : (G.B ++ [GB.own none 0 0])[σ.length]? = some (GB.own none 0 0) := by rw [← hr.st.len]; simp
 by_cases hz : es2 = []
 · subst hz
   have hnews : news = [] := zAs (by simpa using hNs)
   have hrun : (Builtin.append_ #[t, tx] o.type #[.slice ad 0 0, a.eval x]).run P w = .ok (.slice ad 0 0) w := by
    have hcc := hS'.cells
    have hll := hS'.len
    simp only [zAn] at hcc hll
    subst hnews
    cases ad with
    | none => rcases hS.kind with ⟨e', hk'⟩ | hk' <;> simp [Builtin.append_, run_underlying hund, run_underlying hk', sizeOf, typeInfo, hi1, hll, hcc]
    | some ad => rcases hS.kind with ⟨e', hk'⟩ | hk' <;> simp [Builtin.append_, run_underlying hund, run_underlying hk', sizeOf, typeInfo, hi1, hll, hcc, storeCells]
   have hrun2 : (execOp a.eval o).run P w = .ok (.value (.slice ad 0 0)) w := by simp [execOp, ho, resolve, invoke, builtin, hA, hrun]
   unfold OWP
   rw [hrun2]
   have hle : BLe G.B (G.B ++ [GB.own none 0 0]) := BLe.append _ _
   have hs1 := hr.st.ownNil sz
   have hs2 : SRel { G with B := G.B ++ [GB.own none 0 0] } (σ ++ [.arr sz 0 []]) w := by
    have := SRel.retell (l := σ.length) (o := .own sz 0) (o' := .arr sz 0 []) hs1 (by simp) (fun g hg _ => by
     rw [hlenG] at hg; simp at hg; subst hg; exact .arrz sz 0)
    simpa using this
   refine ⟨_, _, _, hk, .upB hle, ?_⟩
   rw [hd]
   have hr' : ARel n { G with B := G.B ++ [GB.own none 0 0] } env (σ ++ [.arr sz 0 []]) a w := hr.later (.upB hle) hs2
   exact hr'.put (of_decide_eq_true hdn) (.sla _ sz 0 0 0 ad 0 ⟨none, 0, 0, hlenG, zAh _, fun _ => ⟨zAh _, .inl rfl⟩⟩)
 · have hpos : 0 < es2.length := zDa.2 hz
   have hold : (Builtin.firstCells i.size 0 (.slice ad 0 0)).run P w.drew = .ok ([] : List Value).toArray w.drew := by
    cases ad with
    | none => rfl
    | some ad =>
      have := run_loadCells_list (P := P) w.drew ad [] (fun j v hj => by simp at hj)
      simp only [Builtin.firstCells, zDe]
      simpa using this
   have hrun := run_append_grow_src (P := P) w t tx o.type e i le.zeroVal hund hi1 (by rw [hi4]; rfl) ad 0 0 [] hold (a.eval x) es2.length news hS' (by omega) (by omega) (growslice_fits (by omega) (by rw [hi3]; simpa using hbound))
   simp only [zBn, List.nil_append] at hrun
   have hcapge : es2.length ≤ grownCap w es2.length 0 e := grownCap_ge _ _ _ _
   have hzc : le.zeroVal.cells.size = sz := by
    unfold LI.zeroVal
    cases ha : le.lt.isAgg with
    | true => simp [Value.cells, hz0, hsz]
    | false =>
      obtain ⟨z', hz'⟩ := he.one ha
      rw [hz'] at hz0 ⊢
      simp at hz0
      rw [← hsz, ← hz0]
      cases z' <;> rfl
   generalize hrow : (news.toArray ++ Builtin.zeroCells le.zeroVal.cells (grownCap w es2.length 0 e - es2.length)) = row at hrun
   have hrowsz : row.size = grownCap w es2.length 0 e * sz := by
    rw [← hrow]
    simp only [zD4, zCo, size_zeroCells, hzc, hNs, ← zAx]
    congr 1; omega
   have hrun2 : (execOp a.eval o).run P w = .ok (.value (.slice (some ⟨w.heap.size, 0, none⟩) es2.length (grownCap w es2.length 0 e))) (w.drew.alloc (.cells row e)) := by
    simp [execOp, ho, resolve, invoke, builtin, hA, hrun]
   unfold OWP
   rw [hrun2]
   have hle : BLe G.B (G.B ++ [GB.own (some w.heap.size) (grownCap w es2.length 0 e) 0]) := BLe.append _ _
   have hsd : SRel G σ w.drew := hr.st.drew
   have hs2 := hsd.alloc (o := .cells row e) (g := .own (some w.heap.size) (grownCap w es2.length 0 e) 0) (ao := .arr sz 0 es2) rfl (.arr w.heap.size _ sz 0 es2 row e (0, 0) (by rw [heap_alloc]; exact if_pos rfl) (by intro o _; simp) hrowsz hcapge hN.2.1 (fun i j x c h1 h2 => by
    have h3 := hN.2.2 i j x c h1 h2
    have hlt : i * sz + j < es2.length * sz := by
     have hi : i < es2.length := (zAb.1 h1).1
     have hj : j < sz := by
      have := hN.2.1 x (zAc h1)
      have := (zAb.1 h2).1
      omega
     exact mul_lt hi hj
    have e1 : row.getD (i * sz + j) undef = news.toArray.getD (i * sz + j) undef := by
     rw [← hrow]
     simp only [zA2]
     rw [zAg (by simp; omega)]
    rw [e1]
    exact h3.mono (Mem.Le.refl _) (BLe.nil _)) (mem_lt hr.st.memok _ (zAh _)).1)
   refine ⟨_, _, _, hk, .upB hle, ?_⟩
   rw [hd]
   have hr' : ARel n { G with B := G.B ++ [GB.own (some w.heap.size) (grownCap w es2.length 0 e) 0] } env (σ ++ [.arr sz 0 es2]) a (w.drew.alloc (.cells row e)) := hr.later (.upB hle) hs2
   refine hr'.put (of_decide_eq_true hdn) (.sla _ sz 0 es2.length 0 _ _ ⟨some w.heap.size, grownCap w es2.length 0 e, 0, ?_, zAh _, fun _ => ⟨by omega, .inr ⟨by omega, by simp⟩⟩⟩)
   rw [← hr.st.len]; simp
end
end Go.Ab
/- From contracts over objects to contracts by content; objects that a piece of code leaves behind are let go. -/
namespace Go.Ab
theorem EStep.appendOwn' {P : Program} {n : Nat} {ops : Array Oper} {o : Oper} {env : Env} {σ : Store} {k : Env → Store → Prop} {T : Tab} (hT : T.Ok P) {s x : Operand} {t tx e : TypeId} {d l sz : Nat} {es es2 : List (List AV)} {u : AV} {s1 b1 : Nat} {z : List Z} {le : LI} (ho : o.op = .call { callee := .builtin .append, args := #[s, x], argTypes := #[t, tx] })
 (hg : o.guard = none) (hd : o.dst = some d) (hdn : d < n) (hs : Rd env s (.sl sz es (.own l))) (hσ : σ[l]? = some (.own sz es.length)) (hx : Rd env x u) (hsrc : AppSrc T tx sz u es2)
 (hl : LOk P t ⟨.slice e, s1, b1, z⟩) (he : LOk P e le) (hsz : le.size = sz) (hz0 : le.zero.length = le.size) (hbound : (es.length + es2.length) * le.bytes ≤ 140737488355328) (hb2 : es.length + es2.length ≤ 9223372036854775807)
 (hk : k (env.put d (.sl sz (es ++ es2) (.own l))) (σ.set l (.own sz (es ++ es2).length))) : EStep P n ops o k env σ :=
 EStep.appendOwn hT ho hg hd hdn hs hσ hx hsrc hl he hsz hz0 hbound hb2 (by rw [← zC0]; exact hk)
theorem Ent.nil {sz : Nat} : Ent .nils (.sl sz [] .no) := fun M x h => by cases h; exact .slz sz .no trivial
theorem Ent.tup {us vs : List AV} (hl : us.length = vs.length) (h : ∀ (i : Nat) (u v : AV), us[i]? = some u → vs[i]? = some v → Ent u v) : Ent (.tup us) (.tup vs) := fun M x hx => by
 cases hx with
 | tup _ xs h1 h2 =>
   refine .tup vs xs (by rw [h1, hl]) fun i c hi => ?_
   have hlt : i < us.length := by
    rw [hl]
    rcases zA5 i vs.length with h | h
    · exact h
    · simp [zA4 h] at hi
   exact h i us[i] c (zA1 hlt) hi M _ (h2 i _ (zA1 hlt))
theorem Ent.tup2 {a b x y : AV} (h : Ent a x) (h' : Ent b y) : Ent (.tup [a, b]) (.tup [x, y]) := Ent.tup rfl fun i u v hu hv => by
 match i, hu, hv with
 | 0, hu, hv => simp at hu hv; subst hu; subst hv; exact h
 | 1, hu, hv => simp at hu hv; subst hu; subst hv; exact h'
 | i + 2, hu, _ => simp at hu
section
variable {P : Program} {n : Nat} {K : Exit → Env → Store → Prop} {env : Env} {σ : Store}
end
end Go.Ab
/- Regions that draw their order, with a chain of effects, one of which panics. -/
namespace Go.Ab
section
variable {P : Program} {n : Nat} {ops : Array Oper} {md : Region.Mode} {S : Nat → Store} {kp : List PanicEntry → Store → Prop} {D : Nat} {eff : Oper → Bool} {lo hi rank : Nat → Nat}
inductive ZS (P : Program) (n : Nat) (ops : Array Oper) (S : Nat → Store) (kp : List PanicEntry → Store → Prop) (D : Nat) (eff : Oper → Bool) (lo hi rank : Nat → Nat) (i : Nat) (o : Oper) (env : Env) : Nat → AV → Nat → Prop
 | quiet {j : Nat} {v : AV} (hl : lo i ≤ j) (hh : j ≤ hi i) (he : eff o = false) (h : ∀ k, lo i ≤ k → k ≤ hi i → PStep P ops o env (S k) v) : ZS P n ops S kp D eff lo hi rank i o env j v j
 | eff {j : Nat} {v : AV} (hr : rank i = j + 1) (he : eff o = true) (h : ∀ env', (∀ x ∈ o.looksAt ops, env' x = env x) → (j + 1 ≠ D ∧ EStep P n ops o (fun e s => e = env'.putO o.dst v ∧ s = S (j + 1)) env' (S j)) ∨ DStep P n ops o kp env' (S j)) : ZS P n ops S kp D eff lo hi rank i o env j v (j + 1)
end
end Go.Ab
