/- The abstract program logic, part 5. No statement is proved here. -/
import Derived.Deep.AppendSrc
import Derived.Laws.Bits64
import Derived.Laws.Bits64b
import Derived.Laws.BytesArg
import Derived.Lib.ConvBytes
import Derived.RecoverIn
import Derived.Test.YtbneeinknlddaaaGreatQ3
import Derived.Test.YtbneeinknlddaaaGreatQ4
set_option linter.unusedVariables false
set_option linter.unusedSimpArgs false
/- Structs and arrays of scalars, nested, compared. -/
namespace Go.Ab
def flatFsN (P : Program) (rec : TypeId → Option (List LT)) : Nat → List Field → Option (List LT)
 | _, [] => some []
 | k, f :: r => match rec f.type with
   | some l => if f.name ≠ "_" ∧ f.offset = k ∧ l ≠ [] then (flatFsN P rec (k + l.length) r).map (l ++ ·) else none
   | none => none
def flatT (P : Program) : Nat → TypeId → Option (List LT)
 | 0, _ => none
 | k + 1, t => match P.underlying t, P.info? t with
   | some (.struct F), some i => if P.stoodInHeld t = false then (match flatFsN P (flatT P k) 0 F.toList with | some l => if i.size = l.length then some l else none | none => none) else none
   | some (.array n e), some i => match flatT P k e with
     | some l => if i.size = n * l.length ∧ l ≠ [] then some ((List.replicate n l).flatten) else none
     | none => none
   | some d, some i => if scal (ltOf P d) = true ∧ i.size = 1 then some [ltOf P d] else none
   | _, _ => none
def isAggT (P : Program) (t : TypeId) : Bool := match P.underlying t with
 | some d => (ltOf P d).isAgg
 | none => false
def flatN (P : Program) (t : TypeId) : Option (List LT) := if P.eqGuardType P.depth t = false ∧ isAggT P t = true then flatT P 8 t else none
def eqLs : List LT → List Value → List Value → Option Bool
 | [], [], [] => some true
 | t :: ts, a :: r, b :: s => match eqV t a b, eqLs ts r s with
   | some h, some u => some (h && u)
   | _, _ => none
 | _, _, _ => none
theorem eqLs_len : ∀ {ts : List LT} {us vs : List Value} {r : Bool}, eqLs ts us vs = some r → us.length = ts.length ∧ vs.length = ts.length
 | [], [], [], _, _ => ⟨rfl, rfl⟩
 | t :: ts, a :: us, b :: vs, r, h => by
   simp only [eqLs] at h
   split at h
   · rename_i g1 g2
     have := eqLs_len g2
     simp [this.1, this.2]
   · simp at h
theorem eqLs_append : ∀ {ts us : List LT} {xs ys : List Value} {r : Bool}, eqLs (ts ++ us) xs ys = some r → ∃ a b, eqLs ts (xs.take ts.length) (ys.take ts.length) = some a ∧ eqLs us (xs.drop ts.length) (ys.drop ts.length) = some b ∧ r = (a && b)
 | [], us, xs, ys, r, h => ⟨true, r, by simp [eqLs], by simpa using h, by simp⟩
 | t :: ts, us, [], _, r, h => by simp [eqLs] at h
 | t :: ts, us, _ :: _, [], r, h => by simp [eqLs] at h
 | t :: ts, us, x :: xs, y :: ys, r, h => by
   simp only [zC5, eqLs] at h
   split at h
   · rename_i h0 u0 g1 g2
     obtain ⟨a, b, e1, e2, e3⟩ := eqLs_append g2
     simp only [Option.some.injEq] at h; subst h; subst e3
     exact ⟨h0 && a, b, by simp [eqLs, g1, e1], by simpa using e2, by rw [Bool.and_assoc]⟩
   · simp at h
def valT (P : Program) (t : TypeId) (l : List Value) : Value := match P.underlying t with
 | some d => if (ltOf P d).isAgg then .agg l.toArray else l.headD undef
 | none => undef
theorem ltOf_isAgg {P : Program} {d : TypeDesc} : (ltOf P d).isAgg = true ↔ (∃ F, d = .struct F) ∨ ∃ n e, d = .array n e := by
 cases d <;> simp [ltOf, LT.isAgg]
theorem flatT_info {P : Program} : ∀ {k : Nat} {t : TypeId} {ts : List LT}, flatT P k t = some ts → ∃ d i, P.underlying t = some d ∧ P.info? t = some i ∧ i.size = ts.length ∧ ((ltOf P d).isAgg = false → scal (ltOf P d) = true ∧ ts = [ltOf P d])
 | 0, _, _, h => by simp [flatT] at h
 | k + 1, t, ts, h => by
   simp only [flatT] at h
   split at h
   · rename_i F i hu hi
     split at h
     · split at h
       · split at h
         · rename_i h1; simp only [Option.some.injEq] at h; subst h
           exact ⟨_, _, hu, hi, h1, fun e => by simp [ltOf, LT.isAgg] at e⟩
         · simp at h
       · simp at h
     · simp at h
   · rename_i n e i hu hi
     split at h
     · rename_i l hl
       split at h
       · rename_i h1; simp only [Option.some.injEq] at h; subst h
         exact ⟨_, _, hu, hi, by rw [h1.1]; simp, fun e => by simp [ltOf, LT.isAgg] at e⟩
       · simp at h
     · simp at h
   · rename_i hn1 hn2 hu hi
     split at h
     · rename_i h1; simp only [Option.some.injEq] at h; subst h
       exact ⟨_, _, hu, hi, by simpa using h1.2, fun _ => ⟨h1.1, rfl⟩⟩
     · simp at h
   · simp at h
theorem run_part {P : Program} {k : Nat} {t : TypeId} {ts : List LT} (hfl : flatT P k t = some ts) (cs : Array Value) (off : Nat) (h : off + ts.length ≤ cs.size) (w : World) :
 (part t cs off).run P w = .ok (valT P t ((cs.toList.drop off).take ts.length)) w := by
 obtain ⟨d, i, hu, hi, hs, hsc⟩ := flatT_info hfl
 have ha : (isAgg t).run P w = .ok (ltOf P d).isAgg w := by
  unfold isAgg
  rw [Sem.run_bind, run_underlying hu w]
  cases d <;> rfl
 unfold part valT
 rw [Sem.run_bind, ha, hu]
 simp only [Result.andThen_ok]
 cases hag : (ltOf P d).isAgg with
 | true =>
   simp only [if_true, Sem.run_bind]
   have hz : (sizeOf t).run P w = .ok ts.length w := by simp [sizeOf, typeInfo, hi, hs]
   rw [hz]
   simp only [Result.andThen_ok, Sem.run_pure]
   congr 2
   apply Array.toList_inj.1
   simp [Array.toList_extract, List.extract_eq_take_drop]
 | false =>
   obtain ⟨_, rfl⟩ := hsc hag
   simp only [zCn] at h ⊢
   have hlt : off < cs.size := by omega
   simp only [zB2, if_false]
   have e : (List.take 1 (List.drop off cs.toList)).headD undef = cs[off] := by
    rw [zBg (by simpa using hlt)]
    simp
   rw [e]
   simp [hlt]
theorem run_eqFN {P : Program} (n : Nat) (w : World) (k0 : Nat) (xs ys : Array Value)
    (hrec : ∀ (t : TypeId) (ts : List LT), flatT P k0 t = some ts → ∀ (as bs : List Value) (r : Bool), eqLs ts as bs = some r → (Op.equalIn n t (valT P t as) (valT P t bs)).run P w = .ok r w) :
    ∀ (F : List Field) (k : Nat) (ts : List LT) (r : Bool), flatFsN P (flatT P k0) k F = some ts → k + ts.length ≤ xs.size → k + ts.length ≤ ys.size → eqLs ts ((xs.toList.drop k).take ts.length) ((ys.toList.drop k).take ts.length) = some r →
    (do for f in F do
          if f.name ≠ "_" then
            if !(← Op.equalIn n f.type (← part f.type xs f.offset) (← part f.type ys f.offset)) then return false
        pure true : Sem Bool).run P w = .ok r w := by
  intro F
  induction F with
  | nil =>
    intro k ts r h1 _ _ h2
    simp only [flatFsN, Option.some.injEq] at h1; subst h1
    simp [eqLs] at h2; subst h2; rfl
  | cons f F ih =>
    intro k ts r h1 hx hy h2
    simp only [flatFsN] at h1
    split at h1
    · rename_i l hl
      split at h1
      · rename_i hc
        obtain ⟨c1, c2, c3⟩ := hc
        simp only [zA6] at h1
        obtain ⟨l2, hF, rfl⟩ := h1
        simp only [zAt] at hx hy
        obtain ⟨a, b, e1, e2, rfl⟩ := eqLs_append h2
        have p1 := run_part hl xs k (by omega) w
        have p2 := run_part hl ys k (by omega) w
        have t1 : ∀ zs : List Value, (((zs.drop k).take (l ++ l2).length).take l.length) = (zs.drop k).take l.length := fun zs => by
          rw [List.take_take]; congr 1; simp
        have t2 : ∀ zs : List Value, (((zs.drop k).take (l ++ l2).length).drop l.length) = (zs.drop (k + l.length)).take l2.length := fun zs => by
          rw [List.drop_take, zCv]; congr 1; simp
        rw [t1, t1] at e1
        rw [t2, t2] at e2
        have e3 := hrec _ _ hl _ _ _ e1
        have ih' := ih (k + l.length) l2 b hF (by omega) (by omega) e2
        simp only [List.forIn_cons, c2]
        cases a with
        | true =>
          simp only [Bool.true_and]
          rw [← ih']
          simp only [ne_eq, c1, not_false_eq_true, if_true, Sem.run_bind, p1, p2, e3, Result.andThen_ok]
          simp
        | false =>
          simp only [ne_eq, c1, not_false_eq_true, if_true, Sem.run_bind, p1, p2, e3, Result.andThen_ok]
          simp
      · simp at h1
    · simp at h1
theorem run_eqAN {P : Program} (n : Nat) (w : World) (k0 : Nat) (e : TypeId) (l : List LT) (hl : flatT P k0 e = some l) (xs ys : Array Value)
    (hrec : ∀ (as bs : List Value) (r : Bool), eqLs l as bs = some r → (Op.equalIn n e (valT P e as) (valT P e bs)).run P w = .ok r w) :
    ∀ (m i0 : Nat) (r : Bool), (i0 + m) * l.length ≤ xs.size → (i0 + m) * l.length ≤ ys.size → eqLs ((List.replicate m l).flatten) ((xs.toList.drop (i0 * l.length)).take (m * l.length)) ((ys.toList.drop (i0 * l.length)).take (m * l.length)) = some r →
    (do for i in List.range' i0 m do
          if !(← Op.equalIn n e (← part e xs (i * l.length)) (← part e ys (i * l.length))) then return false
        pure true : Sem Bool).run P w = .ok r w := by
  intro m
  induction m with
  | zero =>
    intro i0 r _ _ h
    simp [eqLs] at h; subst h; rfl
  | succ m ih =>
    intro i0 r hx hy h
    rw [List.replicate_succ, List.flatten_cons] at h
    obtain ⟨a, b, e1, e2, rfl⟩ := eqLs_append h
    have hm : (i0 + (m + 1)) * l.length = i0 * l.length + l.length + m * l.length := by rw [zBc, zBc]; omega
    have hm2 : (m + 1) * l.length = l.length + m * l.length := by rw [zBc]; omega
    have hm3 : (i0 + 1) * l.length = i0 * l.length + l.length := by rw [zBc]; omega
    have hm4 : (i0 + 1 + m) * l.length = i0 * l.length + l.length + m * l.length := by rw [zBc, zBc]; omega
    have p1 := run_part hl xs (i0 * l.length) (by omega) w
    have p2 := run_part hl ys (i0 * l.length) (by omega) w
    have t1 : ∀ zs : List Value, (((zs.drop (i0 * l.length)).take ((m + 1) * l.length)).take l.length) = (zs.drop (i0 * l.length)).take l.length := fun zs => by
      rw [List.take_take]; congr 1; omega
    have t2 : ∀ zs : List Value, (((zs.drop (i0 * l.length)).take ((m + 1) * l.length)).drop l.length) = (zs.drop ((i0 + 1) * l.length)).take (m * l.length) := fun zs => by
      rw [List.drop_take, zCv]; congr 1
      · omega
      · rw [hm3]
    rw [t1, t1] at e1
    rw [t2, t2] at e2
    have e3 := hrec _ _ _ e1
    have ih' := ih (i0 + 1) b (by omega) (by omega) e2
    simp only [List.range'_succ, List.forIn_cons]
    cases a with
    | true =>
      simp only [Bool.true_and]
      rw [← ih']
      simp only [Sem.run_bind, p1, p2, e3, Result.andThen_ok]
      simp
    | false =>
      simp only [Sem.run_bind, p1, p2, e3, Result.andThen_ok]
      simp
theorem run_eqT {P : Program} (w : World) : ∀ (k : Nat) (t : TypeId) (ts : List LT), flatT P k t = some ts → ∀ n, k ≤ n → ∀ (as bs : List Value) (r : Bool), eqLs ts as bs = some r → (Op.equalIn n t (valT P t as) (valT P t bs)).run P w = .ok r w
 | 0, _, _, h, _, _, _, _, _, _ => by simp [flatT] at h
 | k + 1, t, ts, h, 0, hn, _, _, _, _ => by omega
 | k + 1, t, ts, h, n + 1, hn, as, bs, r, he => by
   have hrec := run_eqT (P := P) w k
   simp only [flatT] at h
   obtain ⟨l1, l2⟩ := eqLs_len he
   split at h
   · rename_i F i hu hi
     split at h
     · rename_i hsi
       split at h
       · rename_i l hF
         split at h
         · rename_i h1; simp only [Option.some.injEq] at h; subst h
           have hv : ∀ z : List Value, valT P t z = .agg z.toArray := fun z => by simp [valT, hu, ltOf, LT.isAgg]
           rw [hv, hv]
           have e := run_eqFN n w k as.toArray bs.toArray (fun t ts h as bs r he => hrec t ts h n (by omega) as bs r he) F.toList 0 l r hF (by simp [l1]) (by simp [l2]) (by simp only [zCu]; rw [zBd (by omega), zBd (by omega)]; exact he)
           rw [Op.equalIn, Sem.run_bind, run_underlying hu w]
           simp only [Result.andThen_ok]
           simp only [Sem.run_bind, run_program, Result.andThen_ok, hsi, zB2, if_false]
           obtain ⟨L, rfl⟩ : ∃ L, F = List.toArray L := ⟨F.toList, by simp⟩
           simp only [List.forIn_toArray]
           simpa [Sem.run_bind] using e
         · simp at h
       · simp at h
     · simp at h
   · rename_i m e i hu hi
     split at h
     · rename_i l hl
       split at h
       · rename_i h1; simp only [Option.some.injEq] at h; subst h
         have hv : ∀ z : List Value, valT P t z = .agg z.toArray := fun z => by simp [valT, hu, ltOf, LT.isAgg]
         rw [hv, hv]
         have hlen : ((List.replicate m l).flatten).length = m * l.length := by simp
         rw [hlen] at l1 l2
         have e9 := run_eqAN n w k e l hl as.toArray bs.toArray (fun as bs r he => hrec _ _ hl n (by omega) as bs r he) m 0 r (by simp [l1]) (by simp [l2]) (by
          simp only [Nat.zero_mul, zCu]
          rw [← l1, zB1, l1, ← l2, zB1]; exact he)
         obtain ⟨_, i2, hu2, hi2, hs2, _⟩ := flatT_info hl
         have hz : (sizeOf e).run P w = .ok l.length w := by simp [sizeOf, typeInfo, hi2, hs2]
         rw [Op.equalIn, Sem.run_bind, run_underlying hu w]
         simp only [Result.andThen_ok]
         rw [Sem.run_bind, hz]
         simp only [Result.andThen_ok]
         simp only [Std.Legacy.Range.forIn_eq_forIn_range', Std.Legacy.Range.size]
         simpa [Sem.run_bind] using e9
       · simp at h
     · simp at h
   · rename_i d i hn1 hn2 hu hi
     split at h
     · rename_i h1; simp only [Option.some.injEq] at h; subst h
       have hag : (ltOf P d).isAgg = false := by
        cases hh : (ltOf P d).isAgg with
        | false => rfl
        | true =>
          rcases ltOf_isAgg.1 hh with ⟨F, rfl⟩ | ⟨m, e, rfl⟩
          · exact (hn1 _ rfl).elim
          · exact (hn2 _ _ rfl).elim
       match as, bs, he with
       | [a], [b], he =>
         simp only [eqLs] at he
         split at he
         · rename_i h0 u0 g1 g2
           simp at g2; subst g2
           simp at he; subst he
           have hv : ∀ z : Value, valT P t [z] = z := fun z => by simp [valT, hu, hag]
           rw [hv, hv]
           exact run_eqV hu g1 n w
         · simp at he
     · simp at h
   · simp at h
theorem eqVs_vals {M : Mem} {B : List GB} : ∀ {ts : List LT} {us vs : List AV} {r : Bool} {xs ys : List Value}, eqVs ts us vs = some r → xs.length = us.length → ys.length = vs.length → (∀ i c, us[i]? = some c → VRel M B c (xs.getD i undef)) → (∀ i c, vs[i]? = some c → VRel M B c (ys.getD i undef)) → eqLs ts xs ys = some r
 | [], [], [], r, [], [], h, _, _, _, _ => by simp [eqVs] at h; subst h; rfl
 | [], [], [], _, _ :: _, _, _, h, _, _, _ => by simp at h
 | [], [], [], _, [], _ :: _, _, _, h, _, _ => by simp at h
 | t :: ts, .prim a :: us, .prim b :: vs, r, [], _, h, hl, _, _, _ => by simp at hl
 | t :: ts, .prim a :: us, .prim b :: vs, r, _ :: _, [], h, _, hl, _, _ => by simp at hl
 | t :: ts, .prim a :: us, .prim b :: vs, r, x :: xs, y :: ys, h, h1, h2, hx, hy => by
   simp only [eqVs] at h
   split at h
   · rename_i h0 u0 g1 g2
     simp only [Option.some.injEq] at h; subst h
     have ex := VRel.prim_eq (hx 0 _ rfl)
     have ey := VRel.prim_eq (hy 0 _ rfl)
     simp at ex ey; subst ex; subst ey
     have := eqVs_vals g2 (xs := xs) (ys := ys) (by simpa using h1) (by simpa using h2) (fun i c hi => by simpa using hx (i + 1) c (by simpa using hi)) (fun i c hi => by simpa using hy (i + 1) c (by simpa using hi))
     simp [eqLs, g1, this]
   · simp at h
theorem run_eqN {P : Program} {t : TypeId} {ts : List LT} (hfl : flatN P t = some ts) {M : Mem} {B : List GB} {us vs : List AV} {x y : Value} {r : Bool} (hx : VRel M B (.agg us) x) (hy : VRel M B (.agg vs) y) (h : eqVs ts us vs = some r) (w : World) :
 ∃ xs ys, x = .agg xs ∧ y = .agg ys ∧ P.eqGuardType P.depth t = false ∧ (Op.equal t x y).run P w = .ok r w := by
 unfold flatN at hfl
 split at hfl
 · rename_i hg
   cases hx with
   | agg _ xs hl hr => cases hy with
     | agg _ ys hl' hr' =>
       refine ⟨xs, ys, rfl, rfl, hg.1, ?_⟩
       have e := run_eqT w 8 t ts hfl 10000 (by decide) xs.toList ys.toList r (eqVs_vals h (by simpa using hl) (by simpa using hl') (fun i c hi => by simpa [zA4, List.getD] using hr i c hi) (fun i c hi => by simpa [zA4, List.getD] using hr' i c hi))
       have hv : ∀ z : Array Value, valT P t z.toList = .agg z := fun z => by
        have h2 := hg.2
        unfold isAggT at h2
        unfold valT
        split at h2
        · rename_i d hd; simp [h2]
        · simp at h2
       rw [hv, hv] at e
       exact e
 · simp at hfl
section
variable {P : Program} {T : Tab} {o : Oper} {env : Env} {σ : Store}
theorem PRun.eqN {t t' : TypeId} {ts : List LT} (hfl : flatN P t = some ts) {x y : Operand} {us vs : List AV} {r : Bool} (ho : o.op = .binOp .eql t x y t') (hx : rdv env x = some (.agg us)) (nx : rdn env x) (hy : rdv env y = some (.agg vs)) (ny : rdn env y) (h : eqVs ts us vs = some r) :
    PRun P o env σ (.b r) :=
  .of fun G A w hs hv => by
    have h1 := rd (Rd.w hx nx) (by simp [ho, Op.operands]) hv
    have h2 := rd (Rd.w hy ny) (by simp [ho, Op.operands]) hv
    obtain ⟨xs, ys, e1, e2, hg, e3⟩ := run_eqN hfl h1 h2 h w
    refine ⟨_, ?_, .prim _⟩
    rw [e1, e2] at e3
    have e : binOp .eql t (.agg xs) (.agg ys) = (do pure (.bool (← Op.equal t (.agg xs) (.agg ys)))) := rfl
    simp only [execOp, ho, e1, e2, e]
    simp [eqGuard, hg, e3]
theorem PRun.neN {t t' : TypeId} {ts : List LT} (hfl : flatN P t = some ts) {x y : Operand} {us vs : List AV} {r : Bool} (ho : o.op = .binOp .neq t x y t') (hx : rdv env x = some (.agg us)) (nx : rdn env x) (hy : rdv env y = some (.agg vs)) (ny : rdn env y) (h : eqVs ts us vs = some r) :
    PRun P o env σ (.b (!r)) :=
  .of fun G A w hs hv => by
    have h1 := rd (Rd.w hx nx) (by simp [ho, Op.operands]) hv
    have h2 := rd (Rd.w hy ny) (by simp [ho, Op.operands]) hv
    obtain ⟨xs, ys, e1, e2, hg, e3⟩ := run_eqN hfl h1 h2 h w
    refine ⟨_, ?_, .prim _⟩
    rw [e1, e2] at e3
    have e : binOp .neq t (.agg xs) (.agg ys) = (do pure (.bool (!(← Op.equal t (.agg xs) (.agg ys))))) := rfl
    simp only [execOp, ho, e1, e2, e]
    simp [eqGuard, hg, e3]
end
end Go.Ab
/- Bits and shifts; interface values; bytes, texts and runes; places in arrays. -/
namespace Go.Ab
section
variable {P : Program} {o : Oper} {env : Env} {σ : Store} {T : Tab}
def isBits : BinOp → Bool
 | .and | .or | .xor => true
 | _ => false
theorem PRun.bitsW {op : BinOp} {t t' : TypeId} {x y : Operand} {k : IntKind} {a b : Int} (ho : o.op = .binOp op t x y t') (hx : rdv env x = some (.prim (.int k a))) (nx : rdn env x) (hy : rdv env y = some (.prim (.int k b))) (ny : rdn env y) (hop : isBits op = true) :
 PRun P o env σ (.prim (.int k (bits op k a b))) :=
 .of fun G A w hs hv => by
  have h1 := VRel.prim_eq (rd (Rd.w hx nx) (by simp [ho, Op.operands]) hv)
  have h2 := VRel.prim_eq (rd (Rd.w hy ny) (by simp [ho, Op.operands]) hv)
  refine ⟨_, ?_, .prim _⟩
  cases op <;> simp [isBits] at hop <;> simp [execOp, ho, h1, h2, binOp, eqGuard, Op.intBits, bits]
theorem PRun.shlW {t t' : TypeId} {x y : Operand} {k k' : IntKind} {a b : Int} (ho : o.op = .binOp .shl t x y t') (hx : rdv env x = some (.prim (.int k a))) (nx : rdn env x) (hy : rdv env y = some (.prim (.int k' b))) (ny : rdn env y) (hb : 0 ≤ b) :
 PRun P o env σ (.prim (.int k (k.wrap (a * 2 ^ (Min.min b.toNat k.bits))))) :=
 .of fun G A w hs hv => by
  have h1 := VRel.prim_eq (rd (Rd.w hx nx) (by simp [ho, Op.operands]) hv)
  have h2 := VRel.prim_eq (rd (Rd.w hy ny) (by simp [ho, Op.operands]) hv)
  have hb' : ¬ b < 0 := by omega
  exact ⟨_, by simp [execOp, ho, h1, h2, binOp, eqGuard, Op.shift, hb'], .prim _⟩
theorem PRun.shrW {t t' : TypeId} {x y : Operand} {k k' : IntKind} {a b : Int} (ho : o.op = .binOp .shr t x y t') (hx : rdv env x = some (.prim (.int k a))) (nx : rdn env x) (hy : rdv env y = some (.prim (.int k' b))) (ny : rdn env y) (hb : 0 ≤ b) :
 PRun P o env σ (.prim (.int k (a.fdiv (2 ^ (Min.min b.toNat k.bits))))) :=
 .of fun G A w hs hv => by
  have h1 := VRel.prim_eq (rd (Rd.w hx nx) (by simp [ho, Op.operands]) hv)
  have h2 := VRel.prim_eq (rd (Rd.w hy ny) (by simp [ho, Op.operands]) hv)
  have hb' : ¬ b < 0 := by omega
  exact ⟨_, by simp [execOp, ho, h1, h2, binOp, eqGuard, Op.shift, hb'], .prim _⟩
def notIface (P : Program) (t : TypeId) : Bool := match P.underlying t with
 | some (.interface _) => false
 | some _ => true
 | none => false
theorem PRun.ifaceW {t : TypeId} {x : Operand} {u : AV} {v : Value} (hi : notIface P t = true) (ho : o.op = .makeInterface t x) (hx : rdv env x = some u) (nx : rdn env x) (hu : (match u with | .prim v => some v | .agg [] => some (.agg #[]) | _ => none) = some v) :
 PRun P o env σ (.prim (.iface t v)) :=
 .of fun G A w hs hv => by
  have h1 := rd (Rd.w hx nx) (by simp [ho, Op.operands]) hv
  have h2 : A.eval x = v := by
   split at hu
   · simp at hu; subst hu; exact VRel.prim_eq h1
   · simp at hu; subst hu
     generalize A.eval x = y at h1
     cases h1 with
     | agg _ vs hl _ =>
       have : vs = #[] := zCf (by simpa using hl)
       rw [this]
   · simp at hu
  refine ⟨.iface t v, ?_, .prim _⟩
  unfold notIface at hi
  split at hi <;> simp at hi
  rename_i d hn hd
  simp only [execOp, ho, Instr.makeInterface, h2]
  rw [Sem.run_bind, Sem.run_bind, run_underlying hd w]
  cases d with
  | interface ms => exact (hn _ rfl).elim
  | _ => rfl
theorem PRun.buildZ {t : TypeId} (hz : P.underlying t = some (.struct #[]) ∧ ((P.info? t).bind (·.zero)) = some (.agg #[])) (ho : o.op = .build t #[]) : PRun P o env σ (.agg []) :=
 .of fun G A w hs hv => by
  obtain ⟨hd, hi⟩ := hz
  cases hi' : P.info? t with
  | none => rw [hi'] at hi; simp at hi
  | some i =>
    rw [hi'] at hi
    simp at hi
    refine ⟨.agg #[], ?_, .agg _ _ rfl fun i c h => by simp at h⟩
    simp [execOp, ho, Instr.build, run_underlying hd, zeroValue, typeInfo, hi', hi, Instr.fill, Value.cells]
theorem PRun.nilIface {t t' ti : TypeId} {x : Operand} {v w' : Value} {r : Bool} (hi : ∃ ms, P.underlying t = some (.interface ms)) (ho : o.op = .binOp .eql t x (.const .nilIface) t') (hx : rdv env x = some (.prim v)) (nx : rdn env x) (hr : (match v with | .nilIface => some true | .iface _ _ => some false | _ => none) = some r) :
    PRun P o env σ (.b r) :=
  .of fun G A w hs hv => by
    have h1 := VRel.prim_eq (rd (Rd.w hx nx) (by simp [ho, Op.operands]) hv)
    obtain ⟨ms, hi⟩ := hi
    refine ⟨.bool r, ?_, .prim _⟩
    have e : A.eval (.const .nilIface) = .nilIface := rfl
    split at hr <;> simp at hr <;> subst hr
    · simp only [execOp, ho, h1, e]
      have h2 : (binOp .eql t .nilIface .nilIface) = (do pure (.bool (← Op.equal t .nilIface .nilIface))) := rfl
      have h3 : (Op.equal t .nilIface .nilIface).run P w = .ok true w := by
        show (Op.equalIn (9999 + 1) t .nilIface .nilIface).run P w = _
        rw [Op.equalIn, Sem.run_bind, run_underlying hi]; rfl
      rw [h2]
      simp [eqGuard, h3]
    · simp only [execOp, ho, h1, e]
      rename_i ti vi _
      have h2 : (binOp .eql t (.iface ti vi) .nilIface) = (do pure (.bool (← Op.equal t (.iface ti vi) .nilIface))) := rfl
      have h3 : (Op.equal t (.iface ti vi) .nilIface).run P w = .ok false w := by
        show (Op.equalIn (9999 + 1) t (.iface ti vi) .nilIface).run P w = _
        rw [Op.equalIn, Sem.run_bind, run_underlying hi]; rfl
      rw [h2]
      simp [eqGuard, h3]
abbrev by8 (c : UInt8) : List AV := [.prim (.int .u8 c.toNat)]
theorem PRun.bytesStr (hT : T.Ok P) {s d e : TypeId} {x : Operand} {l : List UInt8} {tk : Tok} {s1 b1 s2 b2 s3 b3 : Nat} {z z2 z3 : List Z} (ho : o.op = .convert s d x) (hx : rdv env x = some (.sl 1 (l.map by8) tk)) (nx : rdn env x)
    (hs' : T.get s = some ⟨.slice e, s1, b1, z⟩) (he : T.get e = some ⟨.int .u8, s2, b2, z2⟩) (hd : T.get d = some ⟨.str, s3, b3, z3⟩) : PRun P o env σ (.str ⟨l.toArray⟩) :=
  .of fun G A w hs hv => by
    have h1 := rd (Rd.w hx nx) (by simp [ho, Op.operands]) hv
    have us : P.underlying s = some (.slice e) := LOk.undSlice (LOk.of (hT.get hs'))
    have ud : P.underlying d = some .string := LOk.undStr (LOk.of (hT.get hd))
    have ue : P.underlying e = some (.int .u8) := by
      obtain ⟨dd, k1, k2⟩ := (LOk.of (hT.get he)).und
      cases dd <;> simp [ltOf] at k2
      subst k2; exact k1
    refine ⟨.string ⟨l.toArray⟩, ?_, .prim _⟩
    generalize hA : A.eval x = y at h1
    have ex : (execOp A.eval o).run P w = (do pure (Next.value (← convert s d y)) : Sem Next).run P w := by simp [execOp, ho, hA]
    rw [ex]
    generalize hes : l.map by8 = es at h1
    have fin : (∀ {a len cap}, y = .slice a len cap → (a = none ∨ len = 0) → l = [] → (convert s d y).run P w = .ok (.string ⟨l.toArray⟩) w) := by
      intro a len cap hy ha hl
      subst hl; subst hy
      rcases ha with rfl | rfl
      · rw [run_convert_bytes_nil w s e us ue len cap d ud]; rfl
      · cases a with
        | none => rw [run_convert_bytes_nil w s e us ue 0 cap d ud]; rfl
        | some a =>
          rw [run_convert_bytes_string w s d e _ 0 cap us ue ud, run_bytesToString w a 0 cap [] (by simpa using run_loadCells_list (P := P) w a [] (fun j v hj => by simp at hj))]
          rfl
    cases h1 with
    | sl _ _ _ b off cap f hz hm hr hc ht =>
      have hlen : es.length = l.length := by rw [← hes]; simp
      have := run_convert_bytes_arg (P := P) w s e us ue b off es.length cap (l.map fun c => (c.toNat : Int)) (by simp [hlen]) (fun i hi => by
        have hc1 := hs.memok.1 _ _ _ (hm i 0 hi (by omega))
        rw [Nat.mul_one, zBk] at hc1
        rw [hc1]
        have hi' : i < l.length := by omega
        have := hr i 0 (by8 l[i]) (.prim (.int .u8 l[i].toNat)) (by rw [← hes]; simp [hi']) rfl
        rw [VRel.prim_eq this]
        simp [List.getD, hi']) d ud
      rw [Sem.run_bind, this]
      have e2 : strOfNums (l.map fun c => (c.toNat : Int)) = ⟨l.toArray⟩ := by
        unfold strOfNums
        rw [List.map_map]
        congr 2
        conv => rhs; rw [← List.map_id l]
        exact List.map_congr_left fun c _ => by simp
      rw [e2]; rfl
    | slz _ _ _ =>
      rw [Sem.run_bind, fin rfl (.inl rfl) (by simpa using hes)]; rfl
    | slzz _ a cap =>
      rw [Sem.run_bind, fin rfl (.inr rfl) (by simpa using hes)]; rfl
theorem SRel.newStay {G : Gh} {w w' : World} (h : SRel G σ w) (c : Array Value) (hsz : w'.heap.size = w.heap.size + 1) (hold : ∀ b, b < w.heap.size → w'.heap[b]? = w.heap[b]?) (hnew : ∀ o v, c[o]? = some v → w'.cell? ⟨w.heap.size, o, none⟩ = some v) (hout : OutR w w') :
 SRel { G with M := G.M.addBlk w.heap.size c } σ w' ∧ G.M.Le (G.M.addBlk w.heap.size c) := by
 have hlt := mem_lt h.memok
 have hle := Mem.le_addBlk (M := G.M) (b := w.heap.size) c (hlt _ (zAi _)).1
 refine ⟨h.after ⟨hle, ⟨fun b o v hv => ?_, fun b es hb => ?_, h.memok.g.mono hle⟩, by omega, hold, fun b hb => ⟨fun o => ?_, rfl⟩, hout⟩, hle⟩
 · simp only [Mem.addBlk] at hv
   split at hv
   · rename_i e; subst e; exact hnew o v hv
   · have h1 := h.memok.1 _ _ _ hv
     have h2 := World.block_lt_of_cell? _ _ h1
     simp only [World.cell?] at h1 ⊢
     rw [hold b h2]; exact h1
 · obtain ⟨clock, h1⟩ := h.memok.2 _ _ hb
   have h2 : b < w.heap.size := by
    rcases zA8 b w.heap.size with h | h
    · exact h
    · simp [zAu h] at h1
   exact ⟨clock, by rw [hold b h2]; exact h1⟩
 · simp only [Mem.addBlk]
   rw [if_neg (by omega)]
theorem PRun.strBytes (hT : T.Ok P) {s d e : TypeId} {x : Operand} {t : ByteArray} {s1 b1 s2 b2 s3 b3 : Nat} {z z2 z3 : List Z} (ho : o.op = .convert s d x) (hx : rdv env x = some (.str t)) (nx : rdn env x)
 (hs' : T.get s = some ⟨.str, s1, b1, z⟩) (hd : T.get d = some ⟨.slice e, s3, b3, z3⟩) (he : T.get e = some ⟨.int .u8, s2, b2, z2⟩) : PRun P o env σ (.sl 1 (t.data.toList.map by8) .no) := by
 intro G A w hs hv
 have h1 := VRel.prim_eq (rd (Rd.w hx nx) (by simp [ho, Op.operands]) hv)
 have us : P.underlying s = some .string := LOk.undStr (LOk.of (hT.get hs'))
 have ud : P.underlying d = some (.slice e) := LOk.undSlice (LOk.of (hT.get hd))
 have ue : P.underlying e = some (.int .u8) := by
  obtain ⟨dd, k1, k2⟩ := (LOk.of (hT.get he)).und
  cases dd <;> simp [ltOf] at k2
  subst k2; exact k1
 have hrun : (execOp A.eval o).run P w = .ok (.value (.slice (some ⟨w.heap.size, 0, none⟩) t.size (grownCap w t.size 0 e))) (Lib.bytesWorld w e t) := by
  simp only [execOp, ho, h1]
  rw [Sem.run_bind, Lib.run_convert_string_bytes w s d e t us ud ue]; rfl
 unfold OWP
 rw [hrun]
 obtain ⟨hs2, hle⟩ := hs.newStay (Lib.bytesCells w e t) (Lib.bytesWorld_size w e t) (fun b hb => Lib.bytesWorld_at_old w e t b hb) (fun o v hv => by
  simp only [World.cell?, Lib.bytesWorld_at_new]; exact hv) OutR.r
 refine ⟨_, _, rfl, ?_, .upM hle, hs2⟩
 have hsz : t.size = (t.data.toList.map by8).length := by rw [zBw, zBo]; rfl
 rw [hsz]
 have hcap : (t.data.toList.map by8).length ≤ grownCap w (t.data.toList.map by8).length 0 e := by
  rw [← hsz]; exact grownCap_ge w t.size 0 e
 refine .sl 1 _ .no w.heap.size 0 _ (fun i j => .int .u8 (t.data.toList.getD i 0).toNat) (fun e he => by simp at he; obtain ⟨_, _, rfl⟩ := he; rfl) (fun i j hi hj => ?_) (fun i j e c hi hj => ?_) hcap trivial
 · have hi' : i < t.data.size := by simpa using hi
   have hj0 : j = 0 := by omega
   subst hj0
   simp only [Mem.addBlk, if_pos rfl, zBs, Nat.mul_one, zBk, Lib.bytesCells]
   rw [zAl (by rw [Array.size_map]; exact hi'), Array.getElem?_map, zBb hi']
   simp only [zBl]
   congr 3
   rw [zC7, zBn, zBb hi']; rfl
 · simp only [zAd, zA6] at hi
   obtain ⟨c', hc', rfl⟩ := hi
   match j, hj with
   | 0, hj =>
     simp at hj; subst hj
     have : t.data.toList.getD i 0 = c' := by simp only [List.getD, hc', zCk]
     rw [this]; exact .prim _
   | j + 1, hj => simp at hj
end
end Go.Ab
/- Operations and calls that panic; contracts of calls that panic. -/
namespace Go.Ab
def uponP (P : Program) (K : List PanicEntry → World → Prop) : Result Next → Prop
 | .ok (.enter f args) w' => Calls P f args w' fun
  | .panicked ch, w'' => K ch w''
  | _, _ => False
 | .halt (.panic v) w' => K [{ v, recovered := false }] w'
 | _ => False
def DStep (P : Program) (n : Nat) (ops : Array Oper) (o : Oper) (kp : List PanicEntry → Store → Prop) (env : Env) (σ : Store) : Prop :=
 (∀ c, o.op ≠ .defer c) ∧ ∀ G a w, ARel n G env σ a w → Region.wanted o (yielded ops a.tmps) = true ∧ uponP P (fun ch w' => ∃ σ' G', kp ch σ' ∧ G.Le G' ∧ ARel n G' env σ' a w') ((execOp a.eval o).run P w)
section
variable {P : Program} {n : Nat} {ops : Array Oper} {o : Oper} {env : Env} {σ : Store} {kp : List PanicEntry → Store → Prop}
theorem DStep.sound {ro : Option Nat} (h : DStep P n ops o kp env σ) {G : Gh} {a : Act} {w : World} (hr : ARel n G env σ a w) {next : Act → World → Prop} {Q : Exit → Act → World → Prop}
 (hQ : ∀ ch σ' G' w', kp ch σ' → G.Le G' → ARel n G' env σ' a w' → Q (.panic ch) a w') : Region.wanted o (yielded ops a.tmps) = true ∧ o.wpIn (FR ro) 0 P a w next Q := by
 obtain ⟨h1, hh⟩ := h.2 G a w hr
 refine ⟨h1, fun _ _ => trivial, ?_⟩
 rw [Oper.semAt_eq _ _ _ h.1]
 generalize (execOp a.eval o).run P w = r at hh
 cases r with
 | ok nx w' =>
   cases nx <;> simp only [uponP] at hh <;> simp only [Oper.uponIn]
   exact ⟨fun hd => by simp [FR, Fence.wide] at hd, (callsIn_wide (n := 0)).2 (Calls.mono hh fun e w'' he => by cases e <;> first | (obtain ⟨s, G', k1, k2, k3⟩ := he; exact hQ _ s G' _ k1 k2 k3) | exact he.elim)⟩
 | halt x w' =>
   cases x <;> simp only [uponP] at hh
   obtain ⟨s, G', k1, k2, k3⟩ := hh
   exact hQ _ s G' _ k1 k2 k3
theorem AOps.soundR {K : Env → Store → Prop} {Q : Exit → Act → World → Prop} (ro : Option Nat) : ∀ (l rest : List Oper) (env : Env) (σ : Store), AOps P n ops K l env σ → ∀ G a w, ARel n G env σ a w →
 (∀ env' σ' G' a' w', K env' σ' → G.Le G' → ARel n G' env' σ' a' w' → wpListIn (FR ro) 0 P ops Q rest a' w') → wpListIn (FR ro) 0 P ops Q (l ++ rest) a w
 | [], rest, env, σ, h, G, a, w, hr, hQ => hQ env σ G a w h (Gh.Le.refl G) hr
 | o :: l, rest, env, σ, h, G, a, w, hr, hQ => by
   have := h G a w hr
   rw [zC5]
   unfold wpListIn
   split
   · rename_i hw
     rw [if_pos hw] at this
     exact this.toIn fun a' w' ⟨e, s, G', h1, h2, h3⟩ => AOps.soundR ro l rest e s h1 G' a' w' h3 fun e' s' G'' a'' w'' k1 k2 k3 => hQ e' s' G'' a'' w'' k1 (h2.trans k2) k3
   · rename_i hw
     rw [if_neg hw] at this
     obtain ⟨e, s, h1, h3⟩ := this
     exact ⟨fun _ _ => trivial, AOps.soundR ro l rest e s h1 G _ w h3 hQ⟩
theorem AWP.regionP {id : Nat} {l post : List Oper} {o : Oper} {K : Exit → Env → Store → Prop} {env : Env} {σ : Store} (i : Nat) (hi : l.drop i = o :: post)
 (h : ∀ K' : Env → Store → Prop, (∀ e s, DStep P n l.toArray o (fun ch s' => K (.panic ch) e s') e s → K' e s) → AOps P n l.toArray K' (l.take i) env σ) : AWP P n (.region id l.toArray false) K env σ := by
 intro G a w hr
 refine wpIn_region_lit ?_
 have e : l = l.take i ++ (o :: post) := by rw [← hi, zCb]
 have h1 := AOps.soundR (Q := fun x a' w' => ∃ env' σ' G', K x env' σ' ∧ G.Le G' ∧ ARel n G' env' σ' a' w') G.R (l.take i) (o :: post) env σ (h _ fun _ _ h => h) G a w hr ?_
 · rwa [← e] at h1
 · intro e' s G' a' w' hd hg hr'
   obtain ⟨k1, k2⟩ := hd.sound (ro := G.R) (next := wpListIn (FR G.R) 0 P l.toArray (fun x a' w' => ∃ env' σ' G', K x env' σ' ∧ G.Le G' ∧ ARel n G' env' σ' a' w') post) hr' (Q := fun x a' w' => ∃ env' σ' G', K x env' σ' ∧ G.Le G' ∧ ARel n G' env' σ' a' w') fun ch s' G'' w'' g1 g2 g3 => ⟨_, s', G'', g1, hg.trans g2, g3⟩
   unfold wpListIn
   rw [if_pos k1]; exact k2
def panIdx : List Oper → Option Nat
 | [] => none
 | o :: r => match o.op with | .panic _ => some 0 | _ => (panIdx r).map (· + 1)
theorem AWP.regionPan {id : Nat} {l post : List Oper} {o : Oper} {K : Exit → Env → Store → Prop} {env : Env} {σ : Store} {i : Nat} (hx : panIdx l = some i) (hi : l.drop i = o :: post)
 (h : ∀ K' : Env → Store → Prop, (∀ e s, DStep P n l.toArray o (fun ch s' => K (.panic ch) e s') e s → K' e s) → AOps P n l.toArray K' (l.take i) env σ) : AWP P n (.region id l.toArray false) K env σ := AWP.regionP i hi h
theorem DStep.panic {x : Operand} {t : TypeId} {v : Value} (ho : o.op = .panic x) (hg : o.guard = none) (hx : rdv env x = some (.prim (.iface t v))) (nx : rdn env x) (hk : kp [{ v := .iface t v, recovered := false }] σ) : DStep P n ops o kp env σ := by
 refine ⟨fun c hc => (by rw [ho] at hc; cases hc), fun G a w hr => ⟨by simp [Region.wanted, hg], ?_⟩⟩
 have h1 := VRel.prim_eq (hr.rd (Rd.w hx nx))
 have : (execOp a.eval o).run P w = .halt (.panic (.iface t v)) w := by
  simp only [execOp, ho, h1, Instr.panic]; rfl
 rw [this]
 exact ⟨σ, G, hk, Gh.Le.refl G, hr⟩
def TDies (P : Program) (f : FuncId) (avs : List AV) (σ : Store) (ch : List PanicEntry) (Q : Store → Prop) : Prop :=
 FnOk P f ∧ ∀ (G : Gh) (w : World) (vs : Array Value), SRel G σ w → ArgsB G avs vs →
  Calls P f vs w (fun e w' => ∃ σ' G', e = .panicked ch ∧ Q σ' ∧ G.Le G' ∧ SRel G' σ' w')
theorem DStep.call {fo : Operand} {args : Array Operand} {Ts : Array TypeId} {f : FuncId} {first caps avs : List AV} {Q : Store → Prop} {ch : List PanicEntry} (h : TDies P f (first ++ avs ++ caps) σ ch Q)
 (ho : o.op = .call { callee := .value fo, args := args, argTypes := Ts }) (hg : o.guard = none) (hf : rdv env fo = some (.fn (.func f) first caps)) (nf : rdn env fo)
 (ha : rds env args.toList = some avs) (na : rdns env args.toList) (hk : ∀ s, Q s → kp ch s) : DStep P n ops o kp env σ := by
 refine ⟨fun c hc => (by rw [ho] at hc; cases hc), fun G a w hr => ⟨by simp [Region.wanted, hg], ?_⟩⟩
 have hv := hr.rd (Rd.w hf nf)
 have hargs := argsB_of hr ha na
 generalize hA : a.eval fo = y at hv
 cases hv with
 | fn _ _ _ vf vc hvf hvc h1 h2 =>
   have e : (execOp a.eval o).run P w = .ok (.enter f (vf ++ (args.toList.map a.eval).toArray ++ vc)) w := by
    have e2 : (args.toList.map a.eval).toArray = args.map a.eval := by cases args; simp
    rw [e2]
    simp only [execOp, ho, resolve, hA, Deferred.ofValue, Sem.run_bind, Sem.run_pure, Result.andThen_ok, invoke]
    exact run_callFunc h.1 _ w
   rw [e]
   refine Calls.mono (h.2 G w _ hr.st ((ArgsB.append ⟨hvf, h1⟩ hargs).append ⟨hvc, h2⟩)) ?_
   rintro e w' ⟨s, G', rfl, k1, k2, k3⟩
   exact ⟨s, G', hk s k1, k2, hr.later k2 k3⟩
theorem LeavesInM.panicked {fn : Func} {tmps : Array Value} {R : Ending → World → Prop} {ch : List PanicEntry} {w : World} (h : R (.panicked ch) w) : LeavesInM Fence.wide 0 P fn tmps R [] (.panicking ch) w := h
theorem TDies.body {f : FuncId} {fn : Func} {c : Code} {avs : List AV} {ch : List PanicEntry} {Q : Store → Prop} (hf : P.funcs[f]? = some fn) (hb : fn.body = some c) (hnm : (fn.name == "runtime.NumGoroutine") = false)
 (hn : fn.ntmps = n) (hle' : decide (avs.length ≤ n) = true)
 (h : AWP P n c (fun x _ s => x = .panic ch ∧ ∃ (σ' : Store), Q σ' ∧ s.take σ'.length = σ' ∧ σ.length ≤ σ'.length ∧ σ'.all (okObj σ'.length) = true) (Env.init avs) σ) : TDies P f avs σ ch Q := by
 refine ⟨⟨fn, hf, by simp [hb], hnm⟩, fun G w vs hs ha => ?_⟩
 refine callsIn_wide.1 (callsIn_of_wp_marks (F := Fence.wide) (n := 0) hf hb trivial ?_)
 have hle := of_decide_eq_true hle'
 have hr : ARel n (G.enter w) (Env.init avs) σ { tmps := vs ++ Array.replicate (fn.ntmps - vs.size) undef, defers := [] } w := by
  refine ⟨by simp [hn, ha.1]; omega, DefOk.nil _, fun i => ?_, hs.enter⟩
  simp only [Env.init]
  cases hi : avs[i]? with
  | none => simp [List.getD, hi]; exact .any _
  | some c' =>
    have h1 := ha.2 i c' hi
    have hlt : i < vs.size := by
     rw [ha.1]
     rcases zA8 i avs.length with h | h
     · exact h
     · simp [zA3 h] at hi
    have e : (vs ++ Array.replicate (fn.ntmps - vs.size) undef).getD i undef = vs.getD i undef := by
     simp only [zA4]
     rw [zAl hlt]
    rw [e]
    simpa [List.getD, hi, Gh.enter] using h1
 refine wpIn_mono (h _ _ _ hr) ?_
 rintro x a' w' ⟨e, s, G', ⟨rfl, σ', hQ, htk, hlen, hok⟩, hg, hr'⟩
 obtain ⟨ds, ds2, hds, hnd, hD⟩ := hr'.defers
 have hF : G'.F = [] := hg.f
 have hds' : a'.defers = marks (ds ++ ds2) ++ [] := by rw [hds, hF]; simp [marks]
 show LeavesInM Fence.wide 0 P fn a'.tmps _ a'.defers (.panicking ch) w'
 rw [hds']
 refine leaves_marks' (by simp) (ds ++ ds2) G' w' hr'.st hnd hD fun G'' w'' k1 k2 k3 k4 k5 k6 hs'' => LeavesInM.panicked ?_
 refine ⟨σ', { G with M := G''.M, B := G''.B.take σ'.length }, rfl, hQ, .up (k3 ▸ hg.m) fun l g hl => ?_, ?_⟩
 · obtain ⟨g', j1, j2⟩ := hg.b l g hl
   have : l < σ'.length := by
    have h1 : l < G.B.length := by
     rcases zA8 l G.B.length with h | h
     · exact h
     · simp [zA3 h] at hl
    rw [hs.len] at h1; omega
   exact ⟨g', take_get (k4 ▸ j1) this, j2⟩
 · have := hs''.take σ'.length (by rw [htk]; exact hok)
   rw [htk] at this
   exact hs.leave this (k1.trans hg.m0) (k2.trans hg.w0)
end
end Go.Ab
/- Functions that defer a call, and deferred functions that recover. -/
namespace Go.Ab
structure FV where
 f : FuncId
 avs : List AV
structure Gh.Le0 (G G' : Gh) : Prop where
 m0 : G'.M0 = G.M0
 w0 : G'.w0 = G.w0
 m : G.M.Le G'.M
 b : BLe G.B G'.B
 d : ∀ x ∈ G.D, x ∈ G'.D
 r : G'.R = G.R
theorem Gh.Le.le0 {G G' : Gh} (h : G.Le G') : G.Le0 G' := ⟨h.m0, h.w0, h.m, h.b, h.d, h.r⟩
theorem Gh.Le0.trans {G G' G'' : Gh} (h : G.Le0 G') (h' : G'.Le0 G'') : G.Le0 G'' := ⟨h'.m0.trans h.m0, h'.w0.trans h.w0, h.m.trans h'.m, h.b.trans h'.b, fun x hx => h'.d x (h.d x hx), h'.r.trans h.r⟩
def FRel (G : Gh) : Option FV → Prop
 | none => G.F = []
 | some v => ∃ d vc, G.F = [d] ∧ d.target = .fn (.func v.f) vc ∧ ArgsB G v.avs (d.args ++ vc)
theorem ArgsB.mono {G G' : Gh} {avs : List AV} {vs : Array Value} (h : ArgsB G avs vs) (hm : G.M.Le G'.M) (hb : BLe G.B G'.B) : ArgsB G' avs vs := ⟨h.1, fun i c hi => (h.2 i c hi).mono hm hb⟩
theorem FRel.mono {G G' : Gh} {F : Option FV} (h : FRel G F) (hg : G.Le G') : FRel G' F := by
 cases F with
 | none => exact hg.f.trans h
 | some v => obtain ⟨d, vc, h1, h2, h3⟩ := h; exact ⟨d, vc, hg.f.trans h1, h2, h3.mono hg.m hg.b⟩
def AWD (P : Program) (n : Nat) (c : Code) (F : Option FV) (K : Exit → Option FV → Env → Store → Prop) (env : Env) (σ : Store) : Prop :=
 ∀ G a w, ARel n G env σ a w → G.R = none → FRel G F → c.wpIn (FR none) 0 P (fun x a' w' => ∃ F' env' σ' G', K x F' env' σ' ∧ G.Le0 G' ∧ FRel G' F' ∧ ARel n G' env' σ' a' w') a w
section
variable {P : Program} {n : Nat} {F : Option FV} {K : Exit → Option FV → Env → Store → Prop} {env : Env} {σ : Store}
theorem AWD.awp {c : Code} (h : AWP P n c (fun x e s => K x F e s) env σ) : AWD P n c F K env σ := by
 intro G a w hr hR hF
 have h1 := h G a w hr
 rw [hR] at h1
 refine wpIn_mono h1 ?_
 rintro x a' w' ⟨e, s, G', k1, k2, k3⟩
 exact ⟨F, e, s, G', k1, k2.le0, hF.mono k2, k3⟩
def thenD (k : Option FV → Env → Store → Prop) (K : Exit → Option FV → Env → Store → Prop) : Exit → Option FV → Env → Store → Prop
 | .normal, F, e, s => k F e s
 | x, F, e, s => K x F e s
theorem AWD.seq {c d : Code} (h : AWD P n c F (thenD (fun F e s => AWD P n d F K e s) K) env σ) : AWD P n (.seq c d) F K env σ := by
 intro G a w hr hR hF
 refine wpIn_seq (wpIn_mono (h G a w hr hR hF) ?_)
 rintro x a' w' ⟨F', e, s, G', k1, k2, k3, k4⟩
 cases x with
 | normal =>
   refine wpIn_mono (k1 G' a' w' k4 (k2.r.trans hR) k3) ?_
   rintro x a'' w'' ⟨F'', e', s', G'', j1, j2, j3, j4⟩
   exact ⟨F'', e', s', G'', j1, k2.trans j2, j3, j4⟩
 | _ => exact ⟨F', e, s, G', k1, k2, k3, k4⟩
def DefStep (P : Program) (od : Oper) (kq : Option FV → Env → Store → Prop) (e : Env) (s : Store) : Prop :=
 ∃ f first caps avs Ts fo args, od.op = .defer { callee := .value fo, args := args, argTypes := Ts } ∧ od.guard = none ∧ od.dst = none ∧ rdv e fo = some (.fn (.func f) first caps) ∧ rdn e fo ∧ rds e args.toList = some avs ∧ rdns e args.toList ∧ kq (some ⟨f, first ++ avs ++ caps⟩) e s
theorem AWD.defer {id : Nat} {l : List Oper} {od : Oper} (i : Nat) (hi : l.drop i = [od]) (h : ∀ K' : Env → Store → Prop, (∀ e s, DefStep P od (K .normal) e s → K' e s) → AOps P n l.toArray K' (l.take i) env σ) : AWD P n (.region id l.toArray false) none K env σ := by
 intro G a w hr hR hF
 refine wpIn_region_lit ?_
 have e : l = l.take i ++ [od] := by rw [← hi, zCb]
 have h1 := AOps.soundR (Q := fun x a' w' => ∃ F' env' σ' G', K x F' env' σ' ∧ G.Le0 G' ∧ FRel G' F' ∧ ARel n G' env' σ' a' w') none (l.take i) [od] env σ (h _ fun _ _ h => h) G a w hr ?_
 · rwa [← e] at h1
 · rintro e' s G' a' w' ⟨f, first, caps, avs, Ts, fo, args, ho, hg, hd, hf, nf, ha, na, hk⟩ hle hr'
   have hw : Region.wanted od (yielded l.toArray a'.tmps) = true := by simp [Region.wanted, hg]
   unfold wpListIn
   rw [if_pos hw]
   refine ⟨fun _ _ => trivial, ?_⟩
   have hv := hr'.rd (Rd.w hf nf)
   have hargs := argsB_of hr' ha na
   generalize hA : a'.eval fo = y at hv
   cases hv with
   | fn _ _ _ vf vc hvf hvc q1 q2 =>
     have e3 : (Oper.semAt (FR none).round a'.eval od).run P w' = .ok (.defer { target := .fn (.func f) vc, args := vf ++ args.map a'.eval }) w' := by
      show (Oper.semAt none a'.eval od).run P w' = _
      rw [Oper.semAt_none]
      simp only [execOp, ho, resolve, hA, Deferred.ofValue, Sem.run_bind, Sem.run_pure, Result.andThen_ok]
     rw [e3]
     simp only [Oper.uponIn, wpListIn]
     have e2 : (args.toList.map a'.eval).toArray = args.map a'.eval := by cases args; simp
     rw [e2] at hargs
     refine ⟨_, e', s, { G' with F := [{ target := .fn (.func f) vc, args := vf ++ args.map a'.eval }] }, hk, ⟨hle.m0, hle.w0, hle.m, hle.b, hle.d, hle.r⟩, ⟨_, vc, rfl, rfl, ?_⟩, ?_⟩
     · have := (ArgsB.append (G := G') ⟨hvf, q1⟩ hargs).append ⟨hvc, q2⟩
       exact ⟨this.1, this.2⟩
     · rw [hd]
       obtain ⟨ds, ds2, hds, hnd, hD⟩ := hr'.defers
       have hF' : G'.F = [] := hle.f.trans hF
       refine ⟨hr'.size, ⟨[], ds ++ ds2, ?_, by simpa using hnd, by simpa using hD⟩, hr'.vals, hr'.st.setF _⟩
       show _ :: a'.defers = _
       rw [hds, hF']; simp [marks]
end
def DCall (P : Program) (f : FuncId) (avs : List AV) (σ : Store) (u : FrameMode) (Q : FrameMode → Store → Prop) : Prop :=
 FnOk P f ∧ ∀ (G : Gh) (w : World) (vs : Array Value), SRel G σ w → ArgsB G avs vs →
  CallsDIn Fence.wide 0 P f vs u w (fun e u' w' => ∃ v σ' G', e = .returned v ∧ Q u' σ' ∧ G.Le G' ∧ SRel G' σ' w')
def modeOf : Exit → Option FrameMode
 | .normal | .ret => some .returning
 | .panic ch => some (.panicking ch)
 | _ => none
theorem PCall.bodyD {P : Program} {T : Tab} (hT : T.Ok P) {f : FuncId} {fn : Func} {c : Code} {n : Nat} {avs : List AV} {r : AV} (hf : P.funcs[f]? = some fn) (hb : fn.body = some c) (hnm : (fn.name == "runtime.NumGoroutine") = false)
 (hn : fn.ntmps = n) (hle' : decide (avs.length ≤ n) = true)
 (h : AWD P n c none (fun x F e s => match F with
  | none => (x = .normal ∨ x = .ret) ∧ ∃ u, retS T e s fn.results.toList = some u ∧ Ent u r
  | some v => ∃ u0, modeOf x = some u0 ∧ DCall P v.f v.avs s u0 (fun u' s' => settle u' = .returning ∧ ∃ u, retS T e s' fn.results.toList = some u ∧ Ent u r)) (Env.init avs) []) : PCall P f avs r := by
 refine ⟨⟨fn, hf, by simp [hb], hnm⟩, fun M w vs hm ha => ?_⟩
 have hs : SRel ⟨M, .all w, M, [], [], none, []⟩ [] w := ⟨hm, fun _ _ => ⟨fun _ => rfl, rfl⟩, ⟨zAi _, fun _ _ => rfl⟩, rfl, fun l g o h => by simp at h, fun l g b h => by simp at h, fun l l' g g' b h => by simp at h, OutR.refl _, ⟨fun _ h => (by cases h), fun _ h => (by cases h)⟩⟩
 refine callsIn_wide.1 (callsIn_of_wp_marks (F := Fence.wide) (n := 0) hf hb trivial ?_)
 have hle := of_decide_eq_true hle'
 have hr : ARel n ⟨M, .all w, M, [], [], none, []⟩ (Env.init avs) [] { tmps := vs ++ Array.replicate (fn.ntmps - vs.size) undef, defers := [] } w := by
  refine ⟨by simp [hn, ha.1]; omega, DefOk.nil _, fun i => ?_, hs⟩
  simp only [Env.init]
  cases hi : avs[i]? with
  | none => simp [List.getD, hi]; exact .any _
  | some c' =>
    have h1 := ha.2 i c' hi
    have hlt : i < vs.size := by
     rw [ha.1]
     rcases zA8 i avs.length with h | h
     · exact h
     · simp [zA3 h] at hi
    have e : (vs ++ Array.replicate (fn.ntmps - vs.size) undef).getD i undef = vs.getD i undef := by
     simp only [zA4]
     rw [zAl hlt]
    rw [e]
    simpa [List.getD, hi] using h1
 refine wpIn_mono (h _ _ _ hr rfl rfl) ?_
 rintro x a' w' ⟨F', e, s, G', hk, hg, hF, hr'⟩
 obtain ⟨ds, ds2, hds, hnd, hD⟩ := hr'.defers
 -- the end: results, and what the call leaves behind
 have fin : ∀ (Gf : Gh) (s' : Store) (wf : World), Gf.M0 = M → Gf.w0 = .all w → G'.M.Le Gf.M → BLe G'.B Gf.B → SRel Gf s' wf → (∃ u, retS T e s' fn.results.toList = some u ∧ Ent u r) →
  LeavesInM Fence.wide 0 P fn a'.tmps (fun e w' => ∃ v M', e = .returned v ∧ VRel M' [] r v ∧ Post M w M' w') [] .returning wf := by
  rintro Gf s' wf e1 e2 e3 e4 hsf ⟨u, hu, hent⟩
  obtain ⟨v, h1, h2⟩ := results_rel hT hsf (fun i => (hr'.vals i).mono e3 e4) hu
  refine ⟨v, h1, v, Gf.M, rfl, hent _ _ h2, hg.m.trans e3, hsf.memok, ?_, fun b hb => ?_, fun b hb => ?_, by have := hsf.out; rwa [e2] at this⟩
  · have := hsf.base.1; rwa [e2] at this
  · have := hsf.base.2; rw [e2] at this; exact this b hb
  · have := hsf.m0; rw [e1, e2] at this; exact this b hb
 cases F' with
 | none =>
   obtain ⟨hx, hu⟩ := hk
   have hF' : G'.F = [] := hF
   have hds' : a'.defers = marks (ds ++ ds2) ++ [] := by rw [hds, hF']; simp [marks]
   have key : LeavesInM Fence.wide 0 P fn a'.tmps (fun e w' => ∃ v M', e = .returned v ∧ VRel M' [] r v ∧ Post M w M' w') a'.defers .returning w' := by
    rw [hds']
    exact leaves_marks' (by simp) (ds ++ ds2) G' w' hr'.st hnd hD fun G'' w'' k1 k2 k3 k4 k5 k6 hs'' => fin G'' s w'' (k1.trans hg.m0) (k2.trans hg.w0) (k3 ▸ Mem.Le.refl _) (k4 ▸ BLe.refl _) hs'' hu
   rcases hx with rfl | rfl <;> exact key
 | some v =>
   obtain ⟨u0, hu0, hcall⟩ := hk
   obtain ⟨d, vc, hF', htar, hargs⟩ := hF
   rw [List.nodup_append] at hnd
   have hne : u0 ≠ .run := by cases x <;> simp [modeOf] at hu0 <;> subst hu0 <;> simp
   have hds' : a'.defers = marks ds ++ (d :: (marks ds2 ++ [])) := by rw [hds, hF']; simp [marks]
   have key : LeavesInM Fence.wide 0 P fn a'.tmps (fun e w' => ∃ v M', e = .returned v ∧ VRel M' [] r v ∧ Post M w M' w') a'.defers u0 w' := by
    rw [hds']
    refine leaves_marks' hne ds G' w' hr'.st hnd.1 (fun b hb => hD b (zBh _ hb)) fun G'' w'' k1 k2 k3 k4 k5 k6 hs'' => ?_
    have hargs'' : ArgsB G'' v.avs (d.args ++ vc) := hargs.mono (k3 ▸ Mem.Le.refl _) (k4 ▸ BLe.refl _)
    refine ⟨hne, .inr ⟨fun hd => (by simp [Fence.wide] at hd), .func v.f, vc, v.f, d.args ++ vc, htar, ?_, fun _ _ => trivial, ?_⟩⟩
    · rw [htar]; simp only [invoke]; exact run_callFunc hcall.1 _ _
    · refine CallsDIn.mono (hcall.2 G'' w'' _ hs'' hargs'') ?_
      rintro e' u' w3 ⟨v', s', G3, rfl, ⟨hset, hu⟩, hle3, hs3⟩
      show LeavesInM Fence.wide 0 P fn a'.tmps _ (marks ds2 ++ []) (settle u') w3
      rw [hset]
      refine leaves_marks' (by simp) ds2 G3 w3 hs3 hnd.2.1 (fun b hb => hle3.d _ (k6 _ (hD b (zBi _ hb)) fun hm => ?_)) fun G4 w4 j1 j2 j3 j4 j5 j6 hs4 => fin G4 s' w4 (j1.trans (hle3.m0.trans (k1.trans hg.m0))) (j2.trans (hle3.w0.trans (k2.trans hg.w0))) (by rw [j3, ← k3]; exact hle3.m) (by rw [j4, ← k4]; exact hle3.b) hs4 hu
      exact hnd.2.2 b hm b hb rfl
   cases x <;> simp [modeOf] at hu0 <;> subst hu0 <;> exact key
def recM : FrameMode → Option (Value × FrameMode)
 | .returning => some (.nilIface, .returning)
 | .panicking ({ v, recovered := false, goexit := false } :: older) => some (v, .panicking ({ v, recovered := true } :: older))
 | _ => none
theorem goes_marks {P : Program} {fn : FuncId} {σ : Store} : ∀ (ds : List Nat) (G : Gh) (w : World) (fr : Frame) (cs : List Frame), SRel G σ w → ds.Nodup → (∀ b ∈ ds, (b, Obj.deferred (some [])) ∈ G.D) → fr.mode = .returning → fr.defers = marks ds → fr.fn = fn →
 ∃ w' G', G'.M0 = G.M0 ∧ G'.w0 = G.w0 ∧ G'.M = G.M ∧ G'.B = G.B ∧ SRel G' σ w' ∧ StepsIn (Machine.fenced P Fence.wide) P (lone fr cs w) (lone { fr with defers := [] } cs w')
 | [], G, w, fr, cs, hs, _, _, _, hd, _ => by
   refine ⟨w, G, rfl, rfl, rfl, rfl, hs, ?_⟩
   have : ({ fr with defers := [] } : Frame) = fr := by cases fr; simp [marks] at hd; simp [hd]
   rw [this]; exact .refl _
 | b :: ds, G, w, fr, cs, hs, hn, hD, hm, hd, hfn => by
   have hb := hD b (zAn ..)
   obtain ⟨h1, _⟩ := hs.dfr.1 _ hb
   rw [List.nodup_cons] at hn
   have hs' := hs.undefer (D' := G.D.filter fun p => p.1 != b) hb (.deferred none) fun p hp => by simpa using hp
   have h2 := step_collected (P := P) (cs := cs) (fr := fr) (w := w) (d := { target := .collected b, args := #[] }) (r := b) (ds := marks ds) (by rw [hm]; simp) hd rfl (run_takeDeferred h1)
   have i1 : (lone fr cs w).fenced P Fence.wide := fenced_out (n := 0) trivial (room_wide _) (by rw [hm]; simp) hd (fun g hg => by simp [Target.leads] at hg)
   obtain ⟨w', G', k1, k2, k3, k4, k5, k6⟩ := goes_marks ds _ _ { fr with defers := [] ++ marks ds } cs hs' hn.2 (fun b' hb' => by
    simp only [zBt, bne_iff_ne, ne_eq]
    exact ⟨hD b' (zAj _ hb'), fun e => hn.1 (by simpa [e] using hb')⟩) hm rfl hfn
   exact ⟨w', G', k1, k2, k3, k4, k5, .head i1 h2 k6⟩
theorem DCall.body {P : Program} {f : FuncId} {fn : Func} {c2 : Code} {id n d : Nat} {o0 : Oper} {avs : List AV} {σ : Store} {u u' : FrameMode} {v : Value} {Q : Store → Prop} {Ts : Array TypeId} (hf : P.funcs[f]? = some fn) (hb : fn.body = some (.seq (.region id #[o0] false) c2)) (hnm : (fn.name == "runtime.NumGoroutine") = false)
 (hn : fn.ntmps = n) (hle' : decide (avs.length ≤ n) = true) (hres : fn.results = #[]) (ho : o0.op = .call { callee := .builtin .recover, args := #[], argTypes := Ts }) (hg : o0.guard = none) (hdst : o0.dst = some d) (hdn : decide (d < n) = true) (hrec : recM u = some (v, u'))
 (h : AWP P n c2 (fun x _ s => (x = .normal ∨ x = .ret) ∧ ∃ σ' : Store, Q σ' ∧ s.take σ'.length = σ' ∧ σ.length ≤ σ'.length ∧ σ'.all (okObj σ'.length) = true) ((Env.init avs).put d (.prim v)) σ) : DCall P f avs σ u (fun u'' s => u'' = u' ∧ Q s) := by
 refine ⟨⟨fn, hf, by simp [hb], hnm⟩, fun G w vs hs ha => ⟨trivial, fun c₀ cs hu hroom => ?_⟩⟩
 have hle := of_decide_eq_true hle'
 let b : Frame := { (default : Frame) with fn := f, kind := .deferred, roundOf := none }
 let a0 : Act := { tmps := vs ++ Array.replicate (fn.ntmps - vs.size) undef, defers := [] }
 have henter : Frame.enter P f vs .deferred = b.atR a0 [.code (.seq (.region id #[o0] false) c2)] := by
  simp [Frame.enter, Frame.atR, hf, hb, b, a0]
 have hr : ARel n (G.enter w) (Env.init avs) σ a0 w := by
  refine ⟨by simp [hn, ha.1, a0]; omega, DefOk.nil _, fun i => ?_, hs.enter⟩
  simp only [Env.init]
  cases hi : avs[i]? with
  | none => simp [List.getD, hi]; exact .any _
  | some c' =>
    have h1 := ha.2 i c' hi
    have hlt : i < vs.size := by
     rw [ha.1]
     rcases zA8 i avs.length with h | h
     · exact h
     · simp [zA3 h] at hi
    have e : (vs ++ Array.replicate (fn.ntmps - vs.size) undef).getD i undef = vs.getD i undef := by
     simp only [zA4]
     rw [zAl hlt]
    simp only [a0]
    rw [e]
    simpa [List.getD, hi, Gh.enter] using h1
 have hr1 : ARel n (G.enter w) ((Env.init avs).put d (.prim v)) σ (a0.put (some d) v) w := hr.put (of_decide_eq_true hdn) (.prim v)
 have hw := h _ _ _ hr1
 have hw' := wpSIn_of_wpIn (F := Fence.wide) (n := 0) (P := P) (cs := { c₀ with mode := u' } :: cs) (Q := fun x a' cs' w' => cs' = { c₀ with mode := u' } :: cs ∧ ∃ e s G', ((x = .normal ∨ x = .ret) ∧ ∃ σ' : Store, Q σ' ∧ s.take σ'.length = σ' ∧ σ.length ≤ σ'.length ∧ σ'.all (okObj σ'.length) = true) ∧ (G.enter w).Le G' ∧ ARel n G' e s a' w') rfl
  (wpIn_mono hw fun x a' w' hx => ⟨rfl, hx⟩)
 have hwhole : (Code.seq (.region id #[o0] false) c2).wpSIn Fence.wide 0 P (fun x a' cs' w' => cs' = { c₀ with mode := u' } :: cs ∧ ∃ e s G', ((x = .normal ∨ x = .ret) ∧ ∃ σ' : Store, Q σ' ∧ s.take σ'.length = σ' ∧ σ.length ≤ σ'.length ∧ σ'.all (okObj σ'.length) = true) ∧ (G.enter w).Le G' ∧ ARel n G' e s a' w') a0 (c₀ :: cs) w := by
  refine wpSIn_seq (wpSIn_region ?_)
  have hx : (execOp a0.eval o0).run P w = .ok .recover w := by
   simp [execOp, ho, resolve, invoke, builtin]
  have hwt : Region.wanted o0 (yielded #[o0] a0.tmps) = true := by simp [Region.wanted, hg]
  have hl : List.range (#[o0] : Array Oper).size = [0] := rfl
  have e0 : (#[o0] : Array Oper)[0]? = some o0 := rfl
  rw [hl]
  simp only [wpOpsSIn, e0]
  refine ⟨fun _ _ => trivial, ?_⟩
  rw [if_pos hwt, hx]
  simp only
  cases u with
  | run => simp [recM] at hrec
  | returning =>
    simp only [recM, Option.some.injEq, Prod.mk.injEq] at hrec
    obtain ⟨rfl, rfl⟩ := hrec
    have : recoverD (c₀ :: cs) = none := by simp [recoverD, hu]
    rw [this]
    have hc : ({ c₀ with mode := .returning } : Frame) = c₀ := by cases c₀; simp at hu; simp [hu]
    rw [hc] at hw'
    simp only [hc, hdst]
    exact hw'
  | panicking ch =>
    cases ch with
    | nil => simp [recM] at hrec
    | cons p older =>
      obtain ⟨pv, pr, pg⟩ := p
      cases pr with
      | true => simp [recM] at hrec
      | false => cases pg with
        | true => simp [recM] at hrec
        | false =>
          simp only [recM, Option.some.injEq, Prod.mk.injEq] at hrec
          obtain ⟨rfl, rfl⟩ := hrec
          have : recoverD (c₀ :: cs) = some (pv, { c₀ with mode := .panicking ({ v := pv, recovered := true } :: older) } :: cs) := by simp [recoverD, hu]
          rw [this]
          simp only [hdst]
          exact hw'
 obtain ⟨x, a', cs', w', hl, ⟨rfl, e, s, G', ⟨hxx, σ', hQ, htk, hlen, hok⟩, hle1, hr'⟩, harr⟩ := hwhole b [] rfl rfl trivial (room_wide _)
 rw [← henter] at harr
 obtain ⟨ds, ds2, hds, hnd, hD⟩ := hr'.defers
 have hF : G'.F = [] := hle1.f
 have hds' : a'.defers = marks (ds ++ ds2) := by rw [hds, hF]; simp [marks]
 have fin : ∀ (todo : List Item), StepsIn (Machine.fenced P Fence.wide) P (lone (Frame.enter P f vs .deferred) (c₀ :: cs) w) (lone { b.atR a' todo with mode := .returning } ({ c₀ with mode := u' } :: cs) w') →
  ∃ e u'' w'' fr, (∃ v σ' G', e = .returned v ∧ (u'' = u' ∧ Q σ') ∧ G.Le G' ∧ SRel G' σ' w'') ∧ ComesIn (Machine.fenced P Fence.wide) P (lone (Frame.enter P f vs .deferred) (c₀ :: cs) w) (lone fr ({ c₀ with mode := u'' } :: cs) w'') e ∧ fr.kind = .deferred ∧ fr.fn = f ∧ fr.going P w'' e := by
  intro todo hst
  obtain ⟨w2, G2, k1, k2, k3, k4, hs2, hst2⟩ := goes_marks (P := P) (fn := f) (ds ++ ds2) G' w' { b.atR a' todo with mode := .returning } ({ c₀ with mode := u' } :: cs) hr'.st hnd hD rfl hds' rfl
  have hres' : (results fn a'.tmps).run P w2 = .ok (.tuple #[]) w2 := by
   have h1 := run_results (P := P) (fn := fn) (by rw [hres]; rfl) a'.tmps w2
   rw [hres] at h1; exact h1
  refine ⟨.returned (.tuple #[]), u', w2, _, ⟨.tuple #[], σ', { G with M := G2.M, B := G2.B.take σ'.length }, rfl, ⟨rfl, hQ⟩, .up (k3 ▸ hle1.m) fun l g hl => ?_, ?_⟩, hst.trans hst2, rfl, rfl, rfl, rfl, fn, hf, hres'⟩
  · obtain ⟨g', j1, j2⟩ := hle1.b l g hl
    have : l < σ'.length := by
     have h1 : l < G.B.length := by
      rcases zA8 l G.B.length with h | h
      · exact h
      · simp [zA3 h] at hl
     rw [hs.len] at h1; omega
    exact ⟨g', take_get (k4 ▸ j1) this, j2⟩
  · have := hs2.take σ'.length (by rw [htk]; exact hok)
    rw [htk] at this
    exact hs.leave this (k1.trans hle1.m0) (k2.trans hle1.w0)
 rcases hxx with rfl | rfl
 · exact fin [] (StepsIn.trans harr (.one (fenced_calm (fr := b.atR a' []) (F := Fence.wide) (n := 0) trivial (room_wide _) rfl) (stepR_end rfl)))
 · obtain ⟨todo, hst⟩ := harr.1 rfl
   exact fin todo hst
end Go.Ab
/- Arrays of the call's own that are written out; places in arrays; slices of arrays; more cuts. -/
namespace Go.Ab
section
variable {P : Program} {n : Nat} {ops : Array Oper} {o : Oper} {env : Env} {σ : Store} {T : Tab} {k : Env → Store → Prop}
theorem fillA_len : ∀ {ps : List (Nat × List AV)} {cells r : List AV} {pl : Nat → Option (Nat × Nat)}, fillA pl cells ps = some r → r.length = cells.length
 | [], cells, r, pl, h => by simp [fillA] at h; rw [h]
 | (i, us) :: ps, cells, r, pl, h => by
   simp only [fillA] at h
   split at h
   · split at h
     · rename_i hle
       rw [fillA_len h]; simp [splice]; omega
     · simp at h
   · simp at h
theorem run_buildRow {t e m : Nat} {parts : Array (Nat × Operand)} {s1 b1 : Nat} {z : List Z} {le : LI} {ps : List (Nat × List AV)} {r : List AV} (ho : o.op = .buildSlice t m parts) (hl : LOk P t ⟨.slice e, s1, b1, z⟩) (he : LOk P e le) (hz0 : le.zero.length = le.size)
 (hn1 : m * le.size ≤ 16777216) (hp : partsF env parts.toList = some ps) (hn : rdns env (parts.toList.map (·.2))) (hf : fillA (fun i => some (i * le.size, le.size)) ((List.range (m * le.size)).map fun i => (le.zero.map Z.av).getD (i % le.size) .any) ps = some r)
 {G : Gh} {A : Act} {w : World} (hv : ∀ x ∈ o.op.operands, VRel G.M G.B (envOp env x) (A.eval x)) :
 ∃ vr : Array Value, (execOp A.eval o).run P w = .ok (.value (.slice (some ⟨w.heap.size, 0, none⟩) m m)) (w.alloc (.cells vr e)) ∧ vr.size = m * le.size ∧ r.length = m * le.size ∧ ∀ (i : Nat) c, r[i]? = some c → VRel G.M G.B c (vr.getD i undef) := by
 obtain ⟨h1, h2⟩ := partsF_rel (o := o) (M := G.M) (B := G.B) (a := A) hp (fun p hp => by simp [ho, Op.operands]; exact ⟨p.1, by simpa using hp⟩) hn hv
 have hzc : le.zeroVal.cells = (le.zero.map Z.val).toArray := by
  unfold LI.zeroVal
  cases ha : le.lt.isAgg with
  | true => rfl
  | false =>
    obtain ⟨z', hz'⟩ := he.one ha
    rw [hz']; cases z' <;> rfl
 have hzr : ∀ z : Z, VRel G.M G.B z.av z.val := fun z => by cases z <;> first | exact .prim _ | exact .nils | exact .imapz
 have hzs : le.zeroVal.cells.size = le.size := by rw [hzc]; simp [hz0]
 let zero : Array Value := if m * le.size = 0 then #[] else le.zeroVal.cells
 obtain ⟨vr, h3, h4, h5⟩ := fill_rel (M := G.M) (B := G.B) ps (parts.toList.map fun (i, x) => (i, A.eval x)) _ ((Array.range (m * le.size)).map (zero[· % zero.size]!)) r hf (by simp) (fun i c hi => by
  simp only [zAd, zA6] at hi
  obtain ⟨j, hj, rfl⟩ := hi
  have hjr := zAw.1 hj
  obtain ⟨hlt, hje⟩ := hjr
  simp at hlt hje; subst hje
  have hn0 : ¬ m * le.size = 0 := by omega
  have hpos : 0 < le.size := Nat.pos_of_mul_pos_left (by omega : 0 < m * le.size)
  have hmod : i % le.size < le.zero.length := by rw [hz0]; exact zCo _ hpos
  have ez : zero = le.zeroVal.cells := if_neg hn0
  have e1 : (((Array.range (m * le.size)).map (zero[· % zero.size]!)).getD i undef) = le.zero[i % le.size].val := by
   rw [ez]
   simp only [zA4, Array.getElem?_map]
   rw [Array.getElem?_range, if_pos hlt]
   simp only [zBl, zCk, hzs]
   rw [hzc]
   simp [hmod]
  have e2 : (le.zero.map Z.av).getD (i % le.size) .any = le.zero[i % le.size].av := by simp [List.getD, hmod]
  rw [e1, e2]; exact hzr _) (by simp [h1]) (fun i p q hi hq => h2 i p q hi hq)
 have hlen := fillA_len hf
 simp at hlen
 refine ⟨vr, ?_, by rw [h4, hlen], hlen, h5⟩
 simp only [execOp, ho, Instr.buildSlice]
 rw [Sem.run_bind, Sem.run_bind, hl.slice w]
 simp only [Result.andThen_ok]
 rw [Sem.run_bind, he.run_size w]
 simp only [Result.andThen_ok]
 have hno : ¬ m * le.size > 2 ^ 24 := by omega
 simp only [if_neg hno]
 have e2 : (parts.map fun (i, x) => (i, A.eval x)).toList = parts.toList.map fun (i, x) => (i, A.eval x) := by simp
 by_cases hm0 : m * le.size = 0
 · have ez : zero = #[] := if_pos hm0
   simp only [if_pos hm0, Sem.run_bind, Sem.run_pure, Result.andThen_ok]
   rw [ez] at h3
   rw [e2, h3]
   simp [newRow]
 · have ez : zero = le.zeroVal.cells := if_neg hm0
   simp only [if_neg hm0, Sem.run_bind, Sem.run_pure, Result.andThen_ok, he.run_zero w]
   rw [ez] at h3
   rw [e2, h3]
   simp [newRow]
def rowF (T : Tab) (env : Env) (t m : Nat) (parts : List (Nat × Operand)) : Option (Nat × List (List AV)) := match T.get t with
 | some ⟨.slice e, _, _, _⟩ => match T.get e, partsF env parts with
   | some le, some ps => if le.zero.length = le.size ∧ m * le.size ≤ 16777216 then
    (match fillA (fun i => some (i * le.size, le.size)) ((List.range (m * le.size)).map fun i => (le.zero.map Z.av).getD (i % le.size) .any) ps with
    | some r => (forceLL (chunk le.size m r)).map fun es => (le.size, es)
    | none => none) else none
   | _, _ => none
 | _ => none
theorem rowF_spec (hT : T.Ok P) {t m : Nat} {parts : Array (Nat × Operand)} {sz : Nat} {es : List (List AV)} (h : rowF T env t m parts.toList = some (sz, es)) (ho : o.op = .buildSlice t m parts) (hn : rdns env (parts.toList.map (·.2)))
 {G : Gh} {A : Act} {w : World} (hv : ∀ x ∈ o.op.operands, VRel G.M G.B (envOp env x) (A.eval x)) :
 ∃ (vr : Array Value) (e : TypeId), (execOp A.eval o).run P w = .ok (.value (.slice (some ⟨w.heap.size, 0, none⟩) m m)) (w.alloc (.cells vr e)) ∧ vr.size = m * sz ∧ es.length = m ∧ (∀ x ∈ es, x.length = sz) ∧
  ∀ (i j : Nat) (x : List AV) (c : AV), es[i]? = some x → x[j]? = some c → VRel G.M G.B c (vr.getD (i * sz + j) undef) := by
 unfold rowF at h
 split at h
 · rename_i e s b zs hg
   split at h
   · rename_i le ps hle hp
     split at h
     · rename_i hc
       split at h
       · rename_i r' hf
         simp only [zA6, Prod.mk.injEq] at h
         obtain ⟨r2, h2, rfl, rfl⟩ := h
         obtain ⟨vr, k1, k2, k3, k4⟩ := run_buildRow (w := w) ho (LOk.of (hT.get hg)) (LOk.of (hT.get hle)) hc.1 hc.2 hp hn hf hv
         have hcl := chunk_length le.size m r'
         rw [← forceLL_eq h2]
         have get : ∀ i, i < m → (chunk le.size m r')[i]? = some ((r'.drop (i * le.size)).take le.size) := fun i hi => chunk_get le.size m r' i hi
         have bound : ∀ i, i < m → i * le.size + le.size ≤ m * le.size := fun i hi => by
          have := zB6 le.size (show i + 1 ≤ m from hi)
          rwa [zBc, zCz] at this
         refine ⟨vr, e, k1, k2, hcl, fun x hx => ?_, fun i j x c hi hj => ?_⟩
         · obtain ⟨i, hi, hie⟩ := zBq.1 hx
           rw [hcl] at hi
           have := get i hi
           rw [zAc (by omega)] at this
           simp at this
           rw [← hie, this]
           have := bound i hi
           simp; omega
         · have hin : i < m := by
            rcases zA8 i m with h | h
            · exact h
            · rw [zA3 (by omega)] at hi; simp at hi
           rw [get i hin] at hi
           simp at hi; subst hi
           rw [zB7] at hj
           split at hj
           · rw [zB9] at hj
             exact k4 _ _ hj
           · simp at hj
       · simp at h
     · simp at h
   · simp at h
 · simp at h
theorem EStep.buildArr (hT : T.Ok P) {t m d sz : Nat} {parts : Array (Nat × Operand)} {es : List (List AV)} (ho : o.op = .buildSlice t m parts) (hg : o.guard = none) (hd : o.dst = some d) (hdn : decide (d < n) = true) (h : rowF T env t m parts.toList = some (sz, es)) (hn : rdns env (parts.toList.map (·.2)))
 (hk : k (env.put d (.sla σ.length sz 0 m 0)) (σ ++ [.arr sz 0 es])) : EStep P n ops o k env σ := by
 refine EStep.plain hg fun G a w hr => ?_
 obtain ⟨vr, e, k1, k2, k3, k4, k5⟩ := rowF_spec (w := w) hT h ho hn (G := G) (A := a) (operands_rel hr.st fun x _ => hr.vals x)
 unfold OWP
 rw [k1]
 have hm := mem_lt hr.st.memok
 have hle : BLe G.B (G.B ++ [GB.own (some w.heap.size) m 0]) := BLe.append _ _
 have hs2 := hr.st.alloc (o := .cells vr e) (g := .own (some w.heap.size) m 0) (ao := .arr sz 0 es) rfl (.arr w.heap.size m sz 0 es vr e (0, 0) (by rw [heap_alloc, if_pos rfl]) (by intro o _; simp) k2 (by omega) k4 (fun i j x c h1 h2 => (k5 i j x c h1 h2).mono (Mem.Le.refl _) hle) (hm _ (zAi _)).1)
 refine ⟨_, _, _, hk, .upB hle, ?_⟩
 rw [hd]
 have hr' : ARel n { G with B := G.B ++ [GB.own (some w.heap.size) m 0] } env (σ ++ [.arr sz 0 es]) a (w.alloc (.cells vr e)) := hr.later (.upB hle) hs2
 refine hr'.put (of_decide_eq_true hdn) ?_
 refine .sla σ.length sz 0 m 0 _ m ⟨some w.heap.size, m, 0, ?_, zAi _, fun _ => ⟨by omega, .inr ⟨by omega, by simp⟩⟩⟩
 rw [← hr.st.len]; simp
theorem EStep.buildOwn (hT : T.Ok P) {t m d sz : Nat} {parts : Array (Nat × Operand)} {es : List (List AV)} (ho : o.op = .buildSlice t m parts) (hg : o.guard = none) (hd : o.dst = some d) (hdn : decide (d < n) = true) (h : rowF T env t m parts.toList = some (sz, es)) (hn : rdns env (parts.toList.map (·.2)))
 (hpure : ∀ e ∈ es, ∀ a ∈ e, ∀ M B x, VRel M B a x → VRel M [] a x)
 (hk : k (env.put d (.sl sz es (.own σ.length))) (σ ++ [.own sz m])) : EStep P n ops o k env σ := by
 refine EStep.plain hg fun G a w hr => ?_
 obtain ⟨vr, e, k1, k2, k3, k4, k5⟩ := rowF_spec (w := w) hT h ho hn (G := G) (A := a) (operands_rel hr.st fun x _ => hr.vals x)
 unfold OWP
 rw [k1]
 obtain ⟨hs1, hleM⟩ := hr.st.newStay vr (w' := w.alloc (.cells vr e)) (by simp) (fun b hb => by rw [heap_alloc, if_neg (by omega)]) (fun o v hv => by simp only [World.cell?]; rw [heap_alloc, if_pos rfl]; exact hv) OutR.r
 have hle : BLe G.B (G.B ++ [GB.own (some w.heap.size) m m]) := BLe.append _ _
 have hheap : (w.alloc (.cells vr e)).heap[w.heap.size]? = some (.cells vr e) := by rw [heap_alloc, if_pos rfl]
 have hs2 : SRel { G with M := G.M.addBlk w.heap.size vr, B := G.B ++ [GB.own (some w.heap.size) m m] } (σ ++ [.own sz m]) (w.alloc (.cells vr e)) := by
  refine ⟨hs1.memok, hs1.m0, hs1.base, by simp [hr.st.len], fun l g ob h1 h2 => ?_, fun l g b h1 h2 => ?_, fun l l' g g' b h1 h2 h3 h4 => ?_, hs1.out, ⟨fun p hp => ?_, hs1.dfr.2⟩⟩
  · rcases zA8 l G.B.length with hlt | hge
    · rw [zA5 hlt] at h1
      rw [zA5 (by rw [← hr.st.len]; exact hlt)] at h2
      exact (hs1.objs l g ob h1 h2).keep hle fun _ _ => rfl
    · have hl : l = G.B.length := by
       rcases zA8 l (G.B.length + 1) with h | h
       · omega
       · rw [zA3 (by simp; omega)] at h1; simp at h1
      subst hl
      simp at h1; subst h1
      rw [hr.st.len] at h2; simp at h2; subst h2
      refine .own w.heap.size m sz m vr e (0, 0) hheap (by intro o _; simp) k2 (zAi _) fun o ho => ?_
      simp only [Mem.addBlk, if_pos rfl]
      exact zAu (by omega)
  · rcases zA8 l G.B.length with hlt | hge
    · rw [zA5 hlt] at h1
      exact hs1.fresh l g b h1 h2
    · have hl : l = G.B.length := by
       rcases zA8 l (G.B.length + 1) with h | h
       · omega
       · rw [zA3 (by simp; omega)] at h1; simp at h1
      subst hl
      simp at h1; subst h1
      simp [GB.block] at h2; subst h2
      exact ⟨hr.st.pnew (zAi _), by simp⟩
  · have old : ∀ (l : Nat) (g : GB), G.B[l]? = some g → g.block ≠ some w.heap.size := fun l g h e => by
     have := (hr.st.fresh l g _ h e).2; omega
    have cs : ∀ (l : Nat) (g : GB), (G.B ++ [GB.own (some w.heap.size) m m])[l]? = some g → (l < G.B.length ∧ G.B[l]? = some g) ∨ (l = G.B.length ∧ g = .own (some w.heap.size) m m) := fun l g h => by
     rcases zA8 l G.B.length with hlt | hge
     · rw [zA5 hlt] at h; exact .inl ⟨hlt, h⟩
     · right
       have hl : l = G.B.length := by
        rcases zA8 l (G.B.length + 1) with h' | h'
        · omega
        · rw [zA3 (by simp; omega)] at h; simp at h
       subst hl; simp at h; exact ⟨rfl, h.symm⟩
    rcases cs l g h1 with ⟨_, q1⟩ | ⟨rfl, rfl⟩
    · rcases cs l' g' h2 with ⟨_, q2⟩ | ⟨rfl, rfl⟩
      · exact hr.st.inj l l' g g' b q1 q2 h3 h4
      · simp [GB.block] at h4; subst h4; exact (old l g q1 h3).elim
    · rcases cs l' g' h2 with ⟨_, q2⟩ | ⟨rfl, rfl⟩
      · simp [GB.block] at h3; subst h3; exact (old l' g' q2 h4).elim
      · rfl
  · obtain ⟨q1, q2, q3, q4, q5⟩ := hs1.dfr.1 p hp
    refine ⟨q1, q2, fun l g h1 => ?_, q4, q5⟩
    rcases zA8 l G.B.length with hlt | hge
    · rw [zA5 hlt] at h1
      exact q3 l g h1
    · have hl : l = G.B.length := by
       rcases zA8 l (G.B.length + 1) with h | h
       · omega
       · rw [zA3 (by simp; omega)] at h1; simp at h1
      subst hl
      simp at h1; subst h1
      have := hr.st.dfr_lt hp
      simp [GB.block]; omega
 refine ⟨_, _, { G with M := G.M.addBlk w.heap.size vr, B := G.B ++ [GB.own (some w.heap.size) m m] }, hk, .up hleM hle, ?_⟩
 rw [hd]
 have hr' : ARel n { G with M := G.M.addBlk w.heap.size vr, B := G.B ++ [GB.own (some w.heap.size) m m] } env (σ ++ [.own sz m]) a (w.alloc (.cells vr e)) := hr.later (.up hleM hle) hs2
 refine hr'.put (of_decide_eq_true hdn) ?_
 rw [← k3]
 refine .sl sz es (.own σ.length) w.heap.size 0 es.length (fun i j => vr.getD (i * sz + j) undef) k4 (fun i j hi hj => ?_) (fun i j x c hi hj => ?_) (zAi _) ⟨some w.heap.size, m, m, ?_, by omega, fun _ => ⟨rfl, k3⟩⟩
 · have h1 := mul_lt hi hj
   have h2 : i * sz + j < vr.size := by rw [k2, ← k3]; exact h1
   simp only [Mem.addBlk, if_pos rfl, zBs]
   simp [h2]
 · exact hpure x (zAm hi) c (zAm hj) _ _ _ ((k5 i j x c hi hj).mono hleM (BLe.refl _))
 · rw [← hr.st.len]; simp [k3]
theorem PRun.buildSl0 (hT : T.Ok P) {t sz : Nat} (ho : o.op = .buildSlice t 0 #[]) (hsz : elemSz T t = some sz) : PRun P o env σ (.sl sz [] .fresh) := by
 intro G A w hs hv
 obtain ⟨e, s1, b1, z, li, hl, hli, h1⟩ := elemSz_spec hT hsz
 have hrun : (execOp A.eval o).run P w = .ok (.value (.slice (some ⟨w.heap.size, 0, none⟩) 0 0)) (w.alloc (.cells #[] e)) := by
  simp only [execOp, ho, Instr.buildSlice]
  rw [Sem.run_bind, Sem.run_bind, hl.slice w]
  simp only [Result.andThen_ok]
  rw [Sem.run_bind, hli.run_size w]
  simp [Instr.fill, newRow]
  rw [show (Array.range 0).map (fun _ => (default : Value)) = #[] from zCf (by simp)]
 obtain ⟨hs1, hleM⟩ := hs.newStay #[] (w' := w.alloc (.cells #[] e)) (by simp) (fun b hb => by rw [heap_alloc, if_neg (by omega)]) (fun o v hv => by simp at hv) OutR.r
 unfold OWP
 rw [hrun]
 exact ⟨_, _, rfl, .sl sz [] .fresh w.heap.size 0 0 (fun _ _ => undef) (by simp) (by simp) (by simp) (zAi _) rfl, .upM hleM, hs1⟩
end
end Go.Ab
/- An own array out of an append; places in arrays and slices of arrays; arrays out of slices; runes. -/
namespace Go.Ab
theorem one_by8 (l : List UInt8) : ∀ x ∈ l.map by8, x.all oneAV = true := fun x hx => by
 obtain ⟨c, _, rfl⟩ := zC1.1 hx; rfl
section
variable {P : Program} {n : Nat} {ops : Array Oper} {o : Oper} {env : Env} {σ : Store} {T : Tab} {k : Env → Store → Prop}
theorem EStep.appendArrF (hT : T.Ok P) {s x : Operand} {t tx e : TypeId} {d sz : Nat} {es2 : List (List AV)} {u : AV} {s1 b1 : Nat} {z : List Z} {le : LI} (ho : o.op = .call { callee := .builtin .append, args := #[s, x], argTypes := #[t, tx] })
 (hg : o.guard = none) (hd : o.dst = some d) (hdn : decide (d < n) = true) (hs : Rd env s (.sl sz [] .fresh)) (hx : Rd env x u) (hsrc : AppSrc T tx sz u es2)
 (hl : LOk P t ⟨.slice e, s1, b1, z⟩) (he : LOk P e le) (hsz : le.size = sz) (hz0 : le.zero.length = le.size) (hbound : es2.length * le.bytes ≤ 140737488355328) (hb2 : es2.length ≤ 9223372036854775807)
 (hk : k (env.put d (.sla σ.length sz 0 es2.length 0)) (σ ++ [.arr sz 0 es2])) : EStep P n ops o k env σ := by
 refine EStep.plain hg fun G a w hr => ?_
 have h1 := hr.rd hs
 obtain ⟨news, hS, hN⟩ := hsrc.src hT hr.st.memok (hr.rd hx)
 generalize hA : a.eval s = sv at h1
 obtain ⟨i, hi1, hi2, hi3, hi4⟩ := he.info
 have hund := hl.undSlice
 have hS' : Src P i.size tx (a.eval x) es2.length news w := by rw [hi2, hsz]; exact hS
 have hNs : news.length = es2.length * sz := by have := hN.1; simpa using this
 have hsv : ∃ ad, sv = .slice ad 0 0 := by
  cases h1 with
  | sl _ _ _ b off cap f hz hm hr hc ht => exact ⟨_, by rw [show cap = 0 from ht]; rfl⟩
  | slz => exact ⟨none, rfl⟩
 obtain ⟨ad, rfl⟩ := hsv
 have hlenG : (G.B ++ [GB.own none 0 0])[σ.length]? = some (GB.own none 0 0) := by rw [← hr.st.len]; simp
 by_cases hz : es2 = []
 · subst hz
   have hnews : news = [] := zAr (by simpa using hNs)
   have hrun : (Builtin.append_ #[t, tx] o.type #[.slice ad 0 0, a.eval x]).run P w = .ok (.slice ad 0 0) w := by
    have hcc := hS'.cells
    have hll := hS'.len
    simp only [zA9] at hcc hll
    subst hnews
    cases ad with
    | none => rcases hS.kind with ⟨e', hk'⟩ | hk' <;> simp [Builtin.append_, run_underlying hund, run_underlying hk', sizeOf, typeInfo, hi1, hll, hcc]
    | some ad => rcases hS.kind with ⟨e', hk'⟩ | hk' <;> simp [Builtin.append_, run_underlying hund, run_underlying hk', sizeOf, typeInfo, hi1, hll, hcc, storeCells]
   have hrun2 : (execOp a.eval o).run P w = .ok (.value (.slice ad 0 0)) w := by simp [execOp, ho, resolve, invoke, builtin, hA, hrun]
   unfold OWP
   rw [hrun2]
   have hle : BLe G.B (G.B ++ [GB.own none 0 0]) := BLe.append _ _
   have hs1 := hr.st.ownNil sz
   have hs2 : SRel { G with B := G.B ++ [GB.own none 0 0] } (σ ++ [.arr sz 0 []]) w := by
    have := SRel.retell (l := σ.length) (o := .own sz 0) (o' := .arr sz 0 []) hs1 (by simp) (fun g hg _ => by
     rw [hlenG] at hg; simp at hg; subst hg; exact .arrz sz 0)
    simpa using this
   refine ⟨_, _, _, hk, .upB hle, ?_⟩
   rw [hd]
   have hr' : ARel n { G with B := G.B ++ [GB.own none 0 0] } env (σ ++ [.arr sz 0 []]) a w := hr.later (.upB hle) hs2
   exact hr'.put (of_decide_eq_true hdn) (.sla _ sz 0 0 0 ad 0 ⟨none, 0, 0, hlenG, zAi _, fun _ => ⟨zAi _, .inl rfl⟩⟩)
 · have hpos : 0 < es2.length := List.length_pos_iff.2 hz
   have hold : (Builtin.firstCells i.size 0 (.slice ad 0 0)).run P w.drew = .ok ([] : List Value).toArray w.drew := by
    cases ad with
    | none => rfl
    | some ad =>
      have := run_loadCells_list (P := P) w.drew ad [] (fun j v hj => by simp at hj)
      simp only [Builtin.firstCells, Nat.zero_mul]
      simpa using this
   have hrun := run_append_grow_src (P := P) w t tx o.type e i le.zeroVal hund hi1 (by rw [hi4]; rfl) ad 0 0 [] hold (a.eval x) es2.length news hS' (by omega) (by omega) (growslice_fits (by omega) (by rw [hi3]; simpa using hbound))
   simp only [zBs, zC6] at hrun
   have hcapge : es2.length ≤ grownCap w es2.length 0 e := grownCap_ge _ _ _ _
   have hzc : le.zeroVal.cells.size = sz := by
    unfold LI.zeroVal
    cases ha : le.lt.isAgg with
    | true => simp [Value.cells, hz0, hsz]
    | false =>
      obtain ⟨z', hz'⟩ := he.one ha
      rw [hz'] at hz0 ⊢
      simp at hz0
      rw [← hsz, ← hz0]
      cases z' <;> rfl
   generalize hrow : (news.toArray ++ Builtin.zeroCells le.zeroVal.cells (grownCap w es2.length 0 e - es2.length)) = row at hrun
   have hrowsz : row.size = grownCap w es2.length 0 e * sz := by
    rw [← hrow]
    simp only [Array.size_append, zCp, size_zeroCells, hzc, hNs, ← zBc]
    congr 1; omega
   have hrun2 : (execOp a.eval o).run P w = .ok (.value (.slice (some ⟨w.heap.size, 0, none⟩) es2.length (grownCap w es2.length 0 e))) (w.drew.alloc (.cells row e)) := by
    simp [execOp, ho, resolve, invoke, builtin, hA, hrun]
   unfold OWP
   rw [hrun2]
   have hle : BLe G.B (G.B ++ [GB.own (some w.heap.size) (grownCap w es2.length 0 e) 0]) := BLe.append _ _
   have hsd : SRel G σ w.drew := hr.st.drew
   have hs2 := hsd.alloc (o := .cells row e) (g := .own (some w.heap.size) (grownCap w es2.length 0 e) 0) (ao := .arr sz 0 es2) rfl (.arr w.heap.size _ sz 0 es2 row e (0, 0) (by rw [heap_alloc]; exact if_pos rfl) (by intro o _; simp) hrowsz hcapge hN.2.1 (fun i j x c h1 h2 => by
    have h3 := hN.2.2 i j x c h1 h2
    have hlt : i * sz + j < es2.length * sz := by
     have hi : i < es2.length := (zAw.1 h1).1
     have hj : j < sz := by
      have := hN.2.1 x (zAm h1)
      have := (zAw.1 h2).1
      omega
     exact mul_lt hi hj
    have e1 : row.getD (i * sz + j) undef = news.toArray.getD (i * sz + j) undef := by
     rw [← hrow]
     simp only [zA4]
     rw [zAl (by simp; omega)]
    rw [e1]
    exact h3.mono (Mem.Le.refl _) (BLe.nil _)) (mem_lt hr.st.memok _ (zAi _)).1)
   refine ⟨_, _, _, hk, .upB hle, ?_⟩
   rw [hd]
   have hr' : ARel n { G with B := G.B ++ [GB.own (some w.heap.size) (grownCap w es2.length 0 e) 0] } env (σ ++ [.arr sz 0 es2]) a (w.drew.alloc (.cells row e)) := hr.later (.upB hle) hs2
   refine hr'.put (of_decide_eq_true hdn) (.sla _ sz 0 es2.length 0 _ _ ⟨some w.heap.size, grownCap w es2.length 0 e, 0, ?_, zAi _, fun _ => ⟨by omega, .inr ⟨by omega, by simp⟩⟩⟩)
   rw [← hr.st.len]; simp
theorem PRun.indexPA (hT : T.Ok P) {t e : TypeId} {x y : Operand} {m l off s1 b1 : Nat} {z : List Z} {kd : IntKind} {i : Int} {le : LI} (ho : o.op = .indexAddr t x y) (hx : rdv env x = some (.ptr l off)) (nx : rdn env x)
 (hy : rdv env y = some (.prim (.int kd i))) (ny : rdn env y) (hl : T.get t = some ⟨.arr m e, s1, b1, z⟩) (he : T.get e = some le) (h : 0 ≤ i ∧ i < m) : PRun P o env σ (.ptr l (off + i.toNat * le.size)) :=
 .of fun G A w hs hv => by
  have hX := rd (Rd.w hx nx) (by simp [ho, Op.operands]) hv
  have hY := VRel.prim_eq (rd (Rd.w hy ny) (by simp [ho, Op.operands]) hv)
  generalize hA : A.eval x = v at hX
  cases hX with
  | ptr _ _ b hb =>
    refine ⟨.pointer (some ⟨b, off + i.toNat * le.size, none⟩), ?_, .ptr _ _ b hb⟩
    simp only [execOp, ho, hA, hY, Instr.indexAt, asIntOf]
    obtain ⟨j, rfl⟩ := zBj h.1
    have hj : j < m := by omega
    simp [(LOk.of (hT.get hl)).arr w, (LOk.of (hT.get he)).run_size w, Instr.sureAddr, hj, addr_add]
theorem PRun.s2a (hT : T.Ok P) {t e : TypeId} {x : Operand} {m s1 b1 : Nat} {z : List Z} {α : Type} {g : α → AV} {al : List α} {tk : Tok} (ho : o.op = .sliceToArrayPointer t x) (hx : rdv env x = some (.sl 1 (al.map fun a => [g a]) tk)) (nx : rdn env x)
 (hl : T.get t = some ⟨.arr m e, s1, b1, z⟩) (hm : m ≤ al.length ∧ 0 < m) : PRun P o env σ (.iptr (al.map g)) :=
 .of fun G A w hs hv => by
  have hX := rd (Rd.w hx nx) (by simp [ho, Op.operands]) hv
  generalize hA : A.eval x = v at hX
  generalize hes : (al.map fun a => [g a]) = es at hX
  have hlen : es.length = al.length := by rw [← hes]; simp
  cases hX with
  | sl _ _ _ b off cap f hz hm' hr hc ht =>
    refine ⟨.pointer (some ⟨b, off, none⟩), ?_, .iptr _ b off (fun j => f j 0) (fun j hj => ?_) fun j c hj => ?_⟩
    · simp only [execOp, ho, hA, Instr.arrayAt]
      have : ¬ es.length < m := by omega
      simp [(LOk.of (hT.get hl)).arr w, this]
    · have := hm' j 0 (by simpa [hlen] using hj) (by omega)
      simpa using this
    · simp only [zAd, zA6] at hj
      obtain ⟨a, ha, rfl⟩ := hj
      exact hr j 0 [g a] (g a) (by rw [← hes]; simp [ha]) rfl
  | slz => simp at hlen; omega
  | slzz => simp at hlen; omega
theorem PRun.loadIAll (hT : T.Ok P) {t : TypeId} {x : Operand} {cs : List AV} {li : LI} (ho : o.op = .load t x) (hx : rdv env x = some (.iptr cs)) (nx : rdn env x) (hl : T.get t = some li) (ha : li.lt.isAgg = true) (hlen : li.size ≤ cs.length) : PRun P o env σ (.agg (cs.take li.size)) := by
 have := PRun.loadI (P := P) (σ := σ) (env := env) ho (Rd.w hx nx) (LOk.of (hT.get hl)) (by simp [ha]; exact hlen)
 simpa [takeAV, ha] using this
theorem PRun.slice3M (hT : T.Ok P) {α : Type} {f : α → List AV} {t : TypeId} {x y' y'' : Operand} {sz : Nat} {al : List α} {tk : Tok} {k' k'' : IntKind} {j : Int} (ho : o.op = .slice t x none (some y') (some y'')) (hx : rdv env x = some (.sl sz (al.map f) tk)) (nx : rdn env x)
 (hy' : rdv env y' = some (.prim (.int k' j))) (ny' : rdn env y') (hy'' : rdv env y'' = some (.prim (.int k'' j))) (ny'' : rdn env y'') (hl : elemSz T t = some sz) (hi : 0 ≤ j ∧ j ≤ al.length) : PRun P o env σ (.sl sz ((al.take j.toNat).map f) .no) :=
 .of fun G A w hs hv => by
  have hX := rd (Rd.w hx nx) (by simp [ho, Op.operands]) hv
  have e' := VRel.prim_eq (rd (Rd.w hy' ny') (by simp [ho, Op.operands]) hv)
  have e'' := VRel.prim_eq (rd (Rd.w hy'' ny'') (by simp [ho, Op.operands]) hv)
  obtain ⟨e, s1, b1, z, li, h1, h2, h3⟩ := elemSz_spec hT hl
  generalize hA : A.eval x = v at hX
  generalize hes : al.map f = es at hX
  have hlen : es.length = al.length := by rw [← hes]; simp
  obtain ⟨m, rfl⟩ := zBj hi.1
  have hm : m ≤ al.length := by omega
  have bounds : ∀ (cap : Nat), m ≤ cap → (Instr.sliceBounds true es.length cap none (some (A.eval y')) (some (A.eval y''))).run P w = .ok (0, m, m) w := fun cap hc => by
   unfold Instr.sliceBounds
   simp [e', e'', run_bound (P := P) (k := k'') (i := (m : Int)) (y := cap) w ⟨by omega, by omega⟩, run_bound (P := P) (k := k') (i := (m : Int)) (y := m) w ⟨by omega, by omega⟩]
  have run : ∀ (ad : Option Addr) (cap : Nat), (m = 0 ∨ ad.map (·.add 0) = ad) → m ≤ cap → v = .slice ad es.length cap → (execOp A.eval o).run P w = .ok (.value (.slice ad m m)) w := fun ad cap had hc hvv => by
   simp only [execOp, ho, hA, hvv, Instr.sliceAt, Instr.slice, Option.map_none, zBl]
   have hb := bounds cap hc
   simp [h1.slice w, hb, h2.run_size w]
   intro hm0
   rcases had with h | h
   · exact absurd h hm0
   · exact h
  rw [zAh]
  cases hX with
  | sl _ _ _ b off cap f' hz hm' hr hc ht =>
    refine ⟨_, run _ cap (.inr (by simp [addr_add])) (by omega) rfl, ?_⟩
    have hl2 : ((al.take m).map f).length = m := by simp; omega
    have := VRel.sl (M := G.M) (B := G.B) sz ((al.take m).map f) .no b off m f' (fun x hx => hz x (by rw [← hes]; rw [List.map_take] at hx; exact zC2 hx)) (fun i j hi hj => hm' i j (by omega) hj) (fun i j x c hi hj => hr i j x c (by
     rw [← hes]
     rw [List.map_take, zB7] at hi
     split at hi
     · exact hi
     · simp at hi) hj) (by omega) trivial
    rw [hl2] at this; exact this
  | slz _ _ _ =>
    have hm0 : m = 0 := by simp at hlen; omega
    subst hm0
    refine ⟨_, run none 0 (.inl rfl) (by omega) rfl, ?_⟩
    simp only [List.take_zero, List.map_nil]
    exact .slz sz .no trivial
  | slzz _ a cap =>
    have hm0 : m = 0 := by simp at hlen; omega
    subst hm0
    refine ⟨_, run a cap (.inl rfl) (by omega) rfl, ?_⟩
    simp only [List.take_zero, List.map_nil]
    exact .slzz sz a 0
end
end Go.Ab
/- From contracts over objects to contracts by content; objects that a piece of code leaves behind are let go. -/
namespace Go.Ab
theorem EStep.appendOwn' {P : Program} {n : Nat} {ops : Array Oper} {o : Oper} {env : Env} {σ : Store} {k : Env → Store → Prop} {T : Tab} (hT : T.Ok P) {s x : Operand} {t tx e : TypeId} {d l sz : Nat} {es es2 : List (List AV)} {u : AV} {s1 b1 : Nat} {z : List Z} {le : LI} (ho : o.op = .call { callee := .builtin .append, args := #[s, x], argTypes := #[t, tx] })
 (hg : o.guard = none) (hd : o.dst = some d) (hdn : d < n) (hs : Rd env s (.sl sz es (.own l))) (hσ : σ[l]? = some (.own sz es.length)) (hx : Rd env x u) (hsrc : AppSrc T tx sz u es2)
 (hl : LOk P t ⟨.slice e, s1, b1, z⟩) (he : LOk P e le) (hsz : le.size = sz) (hz0 : le.zero.length = le.size) (hbound : (es.length + es2.length) * le.bytes ≤ 140737488355328) (hb2 : es.length + es2.length ≤ 9223372036854775807)
 (hk : k (env.put d (.sl sz (es ++ es2) (.own l))) (σ.set l (.own sz (es ++ es2).length))) : EStep P n ops o k env σ :=
 EStep.appendOwn hT ho hg hd hdn hs hσ hx hsrc hl he hsz hz0 hbound hb2 (by rw [← zAt]; exact hk)
theorem Ent.nil {sz : Nat} : Ent .nils (.sl sz [] .no) := fun M x h => by cases h; exact .slz sz .no trivial
theorem Ent.tup {us vs : List AV} (hl : us.length = vs.length) (h : ∀ (i : Nat) (u v : AV), us[i]? = some u → vs[i]? = some v → Ent u v) : Ent (.tup us) (.tup vs) := fun M x hx => by
 cases hx with
 | tup _ xs h1 h2 =>
   refine .tup vs xs (by rw [h1, hl]) fun i c hi => ?_
   have hlt : i < us.length := by
    rw [hl]
    rcases zA8 i vs.length with h | h
    · exact h
    · simp [zA3 h] at hi
   exact h i us[i] c (zAc hlt) hi M _ (h2 i _ (zAc hlt))
theorem Ent.tup2 {a b x y : AV} (h : Ent a x) (h' : Ent b y) : Ent (.tup [a, b]) (.tup [x, y]) := Ent.tup rfl fun i u v hu hv => by
 match i, hu, hv with
 | 0, hu, hv => simp at hu hv; subst hu; subst hv; exact h
 | 1, hu, hv => simp at hu hv; subst hu; subst hv; exact h'
 | i + 2, hu, _ => simp at hu
theorem Ent.tup3 {a b c x y z : AV} (h : Ent a x) (h' : Ent b y) (h'' : Ent c z) : Ent (.tup [a, b, c]) (.tup [x, y, z]) := Ent.tup rfl fun i u v hu hv => by
 match i, hu, hv with
 | 0, hu, hv => simp at hu hv; subst hu; subst hv; exact h
 | 1, hu, hv => simp at hu hv; subst hu; subst hv; exact h'
 | 2, hu, hv => simp at hu hv; subst hu; subst hv; exact h''
 | i + 3, hu, _ => simp at hu
section
variable {P : Program} {n : Nat} {K : Exit → Env → Store → Prop} {env : Env} {σ : Store}
end
end Go.Ab
/- Regions that draw their order, with a chain of effects, one of which panics. -/
namespace Go.Ab
section
variable {P : Program} {n : Nat} {ops : Array Oper} {md : Region.Mode} {S : Nat → Store} {kp : List PanicEntry → Store → Prop} {D : Nat} {eff : Oper → Bool} {lo hi rank : Nat → Nat}
inductive ZS (P : Program) (n : Nat) (ops : Array Oper) (S : Nat → Store) (kp : List PanicEntry → Store → Prop) (D : Nat) (eff : Oper → Bool) (lo hi rank : Nat → Nat) (i : Nat) (o : Oper) (env : Env) : Nat → AV → Nat → Prop
 | quiet {j : Nat} {v : AV} (hl : lo i ≤ j) (hh : j ≤ hi i) (he : eff o = false) (h : ∀ k, lo i ≤ k → k ≤ hi i → PStep P ops o env (S k) v) : ZS P n ops S kp D eff lo hi rank i o env j v j
 | eff {j : Nat} {v : AV} (hr : rank i = j + 1) (he : eff o = true) (h : ∀ env', (∀ x ∈ o.looksAt ops, env' x = env x) → (j + 1 ≠ D ∧ EStep P n ops o (fun e s => e = env'.putO o.dst v ∧ s = S (j + 1)) env' (S j)) ∨ DStep P n ops o kp env' (S j)) : ZS P n ops S kp D eff lo hi rank i o env j v (j + 1)
theorem ZS.congr {i : Nat} {o : Oper} {env env' : Env} {j j' : Nat} {v : AV} (h : ZS P n ops S kp D eff lo hi rank i o env j v j') (he : ∀ x ∈ o.looksAt ops, env' x = env x) : ZS P n ops S kp D eff lo hi rank i o env' j v j' := by
 cases h with
 | quiet hl hh hf h => exact .quiet hl hh hf fun k h1 h2 => (h k h1 h2).congr he
 | eff hj hf h => exact .eff hj hf fun e2 h2 => h e2 fun x hx => (h2 x hx).trans (he x hx)
def zq (P : Program) (n : Nat) (ops : Array Oper) (S : Nat → Store) (kp : List PanicEntry → Store → Prop) (D : Nat) (eff : Oper → Bool) (lo hi rank : Nat → Nat) (i : Nat) (K : Env → Nat → Prop) (env : Env) (j : Nat) : Prop :=
 match ops[i]? with
 | none => K env j
 | some o => ∃ v j', ZS P n ops S kp D eff lo hi rank i o env j v j' ∧ K (env.putO o.dst v) j'
theorem zq_mono {i : Nat} {env : Env} {j : Nat} {K K' : Env → Nat → Prop} (h : ∀ e j, K e j → K' e j) (hh : zq P n ops S kp D eff lo hi rank i K env j) : zq P n ops S kp D eff lo hi rank i K' env j := by
 unfold zq at *
 split
 · exact h _ _ (by simpa [*] using hh)
 · rename_i o ho; simp only [ho] at hh; obtain ⟨v, j', h1, h2⟩ := hh; exact ⟨v, j', h1, h _ _ h2⟩
def zAny (P : Program) (n : Nat) (md : Region.Mode) (ops : Array Oper) (S : Nat → Store) (kp : List PanicEntry → Store → Prop) (D : Nat) (eff : Oper → Bool) (lo hi rank : Nat → Nat) (K : Env → Nat → Prop) : Nat → Array Bool → Env → Nat → Prop
 | 0, listed, e, j => Region.ready md ops listed = [] ∧ K e j
 | fuel + 1, listed, e, j =>
   (Region.ready md ops listed = [] → K e j) ∧ ∀ i ∈ Region.ready md ops listed, zq P n ops S kp D eff lo hi rank i (zAny P n md ops S kp D eff lo hi rank K fuel (listed.setIfInBounds i true)) e j
theorem zq_put {i i0 : Nat} {oi oj : Oper} {v : AV} {j j1 : Nat} (hj : ops[i0]? = some oj) (hap : oi.apart ops oj = true) (hef : pairOk eff lo hi rank i i0 oi oj) {K : Env → Nat → Prop} {env : Env}
 (hy : ZS P n ops S kp D eff lo hi rank i oi env j v j1) (h : zq P n ops S kp D eff lo hi rank i0 K (env.putO oi.dst v) j1) :
 zq P n ops S kp D eff lo hi rank i0 (fun e j' => ∃ j2, ZS P n ops S kp D eff lo hi rank i oi e j' v j2 ∧ K (e.putO oi.dst v) j2) env j := by
 obtain ⟨h1, h2, h3⟩ := Oper.apart_spec hap
 obtain ⟨e1, e2, e3⟩ := hef
 unfold zq at *
 simp only [hj] at *
 obtain ⟨u, j2, hu, hK⟩ := h
 have hu' := hu.congr (env' := env) fun x hx => (Env.putO_other _ fun i hi e => h1 i hi (e ▸ hx)).symm
 have hy' := hy.congr (env' := env.putO oj.dst u) fun x hx => Env.putO_other _ fun i hi e => h3 i hi (e ▸ hx)
 rw [Env.putO_comm env v u h2] at hK
 cases hu' with
 | quiet g0 g1 g2 g3 =>
   cases hy' with
   | quiet k0 k1 k2 k3 => exact ⟨u, _, .quiet g0 g1 g2 g3, _, .quiet k0 k1 k2 k3, hK⟩
   | eff k1 k2 k3 => exact ⟨u, _, .quiet (by have := e3 k2 g2; omega) (by omega) g2 g3, _, .eff k1 k2 k3, hK⟩
 | eff g1 g2 g3 =>
   cases hy' with
   | quiet k0 k1 k2 k3 => exact ⟨u, _, .eff g1 g2 g3, _, .quiet (by omega) (by have := e2 k2 g2; omega) k2 k3, hK⟩
   | eff k1 k2 k3 => rw [k2, g2] at e1; cases e1
theorem zAny_first {K : Env → Nat → Prop} {i : Nat} {oi : Oper} {v : AV} (hio : ops[i]? = some oi) :
 ∀ (fuel : Nat) (listed : Array Bool) (env : Env) (j j1 : Nat),
  (∀ k ok, ops[k]? = some ok → k ≠ i → listed.getD k true = false → (∀ e ∈ ok.after, Region.binds md e = true → e.on ≠ i) → oi.apart ops ok = true ∧ pairOk eff lo hi rank i k oi ok) →
  i ∈ Region.ready md ops listed → ZS P n ops S kp D eff lo hi rank i oi env j v j1 →
  zAny P n md ops S kp D eff lo hi rank K fuel (listed.setIfInBounds i true) (env.putO oi.dst v) j1 → zAny P n md ops S kp D eff lo hi rank K (fuel + 1) listed env j := by
 have take : ∀ {env : Env} {j j1 : Nat} {K : Env → Nat → Prop}, ZS P n ops S kp D eff lo hi rank i oi env j v j1 → K (env.putO oi.dst v) j1 → zq P n ops S kp D eff lo hi rank i K env j := fun hy h => by
  unfold zq; simp only [hio]; exact ⟨v, _, hy, h⟩
 intro fuel
 induction fuel with
 | zero =>
   intro listed env j j1 _ hr hy H
   refine ⟨fun h => (by rw [h] at hr; cases hr), fun k hk => ?_⟩
   by_cases hki : k = i
   · subst hki; exact take hy H
   · have := ready_mono hk hki
     rw [H.1] at this
     cases this
 | succ fuel ih =>
   intro listed env j j1 hfree hr hy H
   refine ⟨fun h => (by rw [h] at hr; cases hr), fun k hk => ?_⟩
   by_cases hki : k = i
   · subst hki; exact take hy H
   · have h1 := H.2 k (ready_mono hk hki)
     obtain ⟨hkun, ok, hok, hall⟩ := mem_ready.1 hk
     have hnot : ∀ e ∈ ok.after, Region.binds md e = true → e.on ≠ i := fun e he hb heq => by
      have h1 := hall e he hb
      have h0 := (mem_ready.1 hr).1
      rw [heq] at h1
      rcases zA8 i listed.size with h' | h'
      · simp [h'] at h0 h1; rw [h0] at h1; cases h1
      · simp [zAu h'] at h1
     obtain ⟨f1, f2⟩ := hfree k ok hok hki hkun hnot
     have h2 := zq_put hok f1 f2 hy h1
     have hfree' : ∀ l ol, ops[l]? = some ol → l ≠ i → (listed.setIfInBounds k true).getD l true = false →
      (∀ e ∈ ol.after, Region.binds md e = true → e.on ≠ i) → oi.apart ops ol = true ∧ pairOk eff lo hi rank i l oi ol := fun l ol hl hli hun hno => by
      refine hfree l ol hl hli ?_ hno
      by_cases hkl : k = l
      · subst hkl; exact hkun
      · rw [getD_set_ne true hkl] at hun; exact hun
     refine zq_mono (fun e' j' h3 => ?_) h2
     obtain ⟨j2, h4, h5⟩ := h3
     refine ih (listed.setIfInBounds k true) e' j' j2 hfree' (ready_mono hr (Ne.symm hki)) h4 ?_
     rw [zC4 _ _ hki]
     exact h5
def ZQ (P : Program) (n : Nat) (ops : Array Oper) (S : Nat → Store) (kp : List PanicEntry → Store → Prop) (D : Nat) (eff : Oper → Bool) (lo hi rank : Nat → Nat) (K : Env → Nat → Prop) : List Oper → Nat → Env → Nat → Prop
 | [], _, e, j => K e j
 | o :: rest, i, e, j => ∃ v j', ZS P n ops S kp D eff lo hi rank i o e j v j' ∧ ZQ P n ops S kp D eff lo hi rank K rest (i + 1) (e.putO o.dst v) j'
theorem zAny_lex {K : Env → Nat → Prop} : ∀ (l : List Oper) (k : Nat) (listed : Array Bool) (env : Env) (j : Nat), (∀ i, l[i]? = ops[k + i]?) →
 rngB md ops eff lo hi rank l.length k listed = true → Region.lexFrom md ops l.length k listed = true → ZQ P n ops S kp D eff lo hi rank K l k env j → zAny P n md ops S kp D eff lo hi rank K l.length listed env j
 | [], _, _, _, _, _, _, hB, h => ⟨by simpa [Region.lexFrom] using hB, h⟩
 | o :: l, k, listed, env, j, hl, hE, hB, h => by
   simp only [zA1, rngB, zA2] at hE
   have h0 : ops[k]? = some o := by simpa using (hl 0).symm
   simp only [zA1, Region.lexFrom, zA2] at hB
   obtain ⟨⟨hr, hf⟩, hB'⟩ := hB
   obtain ⟨v, j', hy, hK⟩ := h
   exact zAny_first h0 l.length listed env j j' (fun k2 ok h1 h2 h3 h4 => let ap := Region.free_spec h0 hf k2 ok h1 h2 h3 h4; ⟨ap, rngAt_spec hE.1 h2 h0 h1 h3 h4 ap⟩) (by simpa using hr) hy
    (zAny_lex l (k + 1) _ _ j' (fun i => by have := hl (i + 1); simpa [zBy, zCe 1 i] using this) hE.2 hB' hK)
theorem wpAny_of_zAny (ro : Option Nat) (hd : dstsOk n ops = true) : ∀ (fuel : Nat) (listed : Array Bool) (env : Env) (j : Nat), j ≠ D → zAny P n md ops S kp D eff lo hi rank (fun _ j => j = D) fuel listed env j → ∀ G a w, ARel n G env (S j) a w →
 ∀ Q : Exit → Act → World → Prop, (∀ env' ch σ' G' a' w', kp ch σ' → G.Le G' → ARel n G' env' σ' a' w' → Q (.panic ch) a' w') → wpAnyIn (FR ro) 0 P md ops Q fuel listed a w
 | 0, _, env, j, hj0, h, G, a, w, hr, Q, hQ => absurd h.2 hj0
 | fuel + 1, listed, env, j, hj0, h, G, a, w, hr, Q, hQ => by
   refine ⟨fun h0 => absurd (h.1 h0) hj0, fun i hi => ?_⟩
   have hq := h.2 i hi
   unfold zq at hq
   unfold wpOpIn
   split
   · rename_i ho; simp only [ho] at hq; exact wpAny_of_zAny ro hd fuel _ env j hj0 hq G a w hr Q hQ
   · rename_i o ho
     simp only [ho] at hq
     obtain ⟨v, j', hx, hK⟩ := hq
     have hdo : ∀ x, o.dst = some x → x < n := dstOk_spec (by
      have := zAb.1 hd o (by
       obtain ⟨hlt, he⟩ := zBa.1 ho
       rw [← he]; simp)
      exact this)
     cases hx with
     | quiet hl hh hf hp =>
       have := hp j hl hh G a w hr.st (fun x _ => hr.vals x)
       split
       · rename_i hw
         rw [if_pos hw] at this
         refine this.toIn ?_
         rintro a' w' ⟨x, G', rfl, h1, h2, h3⟩
         have hr' : ARel n G' env (S j) a w' := hr.later h2 h3
         exact wpAny_of_zAny ro hd fuel _ _ j hj0 hK G' _ w' (hr'.putO hdo h1) Q fun e' ch s' G'' a'' w'' k g r => hQ e' ch s' G'' a'' w'' k (h2.trans g) r
       · rename_i hw
         rw [if_neg hw] at this
         exact ⟨fun _ _ => trivial, wpAny_of_zAny ro hd fuel _ _ j hj0 hK G _ w (hr.putO hdo this) Q hQ⟩
     | eff hj hf hp =>
       rcases hp env (fun _ _ => rfl) with ⟨hjD, hp⟩ | hp
       · have := hp G a w hr
         split
         · rename_i hw
           rw [if_pos hw] at this
           refine this.toIn ?_
           rintro a' w' ⟨e', s', G', ⟨rfl, rfl⟩, h2, h3⟩
           exact wpAny_of_zAny ro hd fuel _ _ _ hjD hK G' a' w' h3 Q fun e' ch s' G'' a'' w'' k g r => hQ e' ch s' G'' a'' w'' k (h2.trans g) r
         · rename_i hw
           rw [if_neg hw] at this
           obtain ⟨env', σ', ⟨rfl, rfl⟩, h3⟩ := this
           exact ⟨fun _ _ => trivial, wpAny_of_zAny ro hd fuel _ _ _ hjD hK G _ w h3 Q hQ⟩
       · obtain ⟨k1, k2⟩ := DStep.sound (ro := ro) (next := wpAnyIn (FR ro) 0 P md ops Q fuel (listed.setIfInBounds i true)) hp hr (Q := Q) fun ch s' G' w' g1 g2 g3 => hQ env ch s' G' a w' g1 g2 g3
         rw [if_pos k1]; exact k2
theorem AWP.drawZ {id : Nat} {l : List Oper} {K : Exit → Env → Store → Prop} {env : Env} {σ : Store} (eff : Oper → Bool) (S : Nat → Store) (D : Nat) (h0 : S 0 = σ) (hD : 0 ≠ D) (hKe : ∀ ch e e' s, K (.panic ch) e s → K (.panic ch) e' s)
 (hm : P.follows .mixedOrders = true) (hB : Region.lexB .any l.toArray = true) (hd : dstsOk n l.toArray = true) (hE : rngB .any l.toArray eff (loOf l eff) (hiOf l eff) (rankOf l eff) l.length 0 (Array.replicate l.length false) = true)
 (h : ZQ P n l.toArray S (fun ch s' => K (.panic ch) (fun _ => .any) s') D eff (loOf l eff) (hiOf l eff) (rankOf l eff) (fun _ j => j = D) l 0 env 0) : AWP P n (.region id l.toArray true) K env σ := by
 subst h0
 intro G a w hr
 simp only [Region.lexB, zA2] at hB
 refine wpIn_region_any hm ?_
 have := zAny_lex (md := .any) l 0 (Array.replicate l.toArray.size false) env 0 (by simp) (by simpa using hE) (by simpa using hB.2) h
 refine wpAny_of_zAny _ hd _ _ env 0 hD (by simpa using this) G a _ ⟨hr.size, hr.defers, hr.vals, hr.st.drew⟩ _ ?_
 intro env' ch s' G' a' w' g1 g2 g3
 exact ⟨env', s', G', hKe _ _ _ _ g1, g2, g3⟩
theorem ZQ.nil {env : Env} {i j : Nat} (h : j = D) : ZQ P n ops S kp D eff lo hi rank (fun _ j => j = D) [] i env j := h
theorem ZQ.q {K : Env → Nat → Prop} {env : Env} {i j : Nat} {o : Oper} {rest : List Oper} {v v' : AV} {g : GG} {d a b : Nat} (he : eff o = false) (hlo : lo i = a) (hhi : hi i = b) (hj : (decide (a ≤ j) && decide (j ≤ b)) = true) (hd : o.dst = some d) (hg : gOf ops env o = some g)
 (h : ∀ k, a ≤ k → k ≤ b → g.holds → PRun P o env (S k) v) (hv : g.wrap v = v') (hk : ZQ P n ops S kp D eff lo hi rank K rest (i + 1) (env.put d v') j) : ZQ P n ops S kp D eff lo hi rank K (o :: rest) i env j := by
 subst hv; subst hlo; subst hhi
 simp only [zA2, dEt] at hj
 refine ⟨g.wrap v, j, .quiet hj.1 hj.2 he fun k h1 h2 => PStep.g hg (h k h1 h2), ?_⟩
 rw [hd]; exact hk
theorem ZQ.e {K : Env → Nat → Prop} {env : Env} {i j : Nat} {o : Oper} {rest : List Oper} {v : AV} {d : Option Nat} (he : eff o = true) (hr : rank i = j + 1) (hD : j + 1 ≠ D) (hd : o.dst = d) (h : ∀ env', (∀ x ∈ o.looksAt ops, env' x = env x) → EStep P n ops o (fun e s => e = env'.putO o.dst v ∧ s = S (j + 1)) env' (S j))
 (hk : ZQ P n ops S kp D eff lo hi rank K rest (i + 1) (env.putO d v) (j + 1)) : ZQ P n ops S kp D eff lo hi rank K (o :: rest) i env j := by
 subst hd
 exact ⟨v, j + 1, .eff hr he fun e x => .inl ⟨hD, h e x⟩, hk⟩
theorem ZQ.d {K : Env → Nat → Prop} {env : Env} {i j : Nat} {o : Oper} {rest : List Oper} {d : Option Nat} (he : eff o = true) (hr : rank i = j + 1) (hd : o.dst = d) (h : ∀ env', (∀ x ∈ o.looksAt ops, env' x = env x) → DStep P n ops o kp env' (S j))
 (hk : ZQ P n ops S kp D eff lo hi rank K rest (i + 1) (env.putO d .any) (j + 1)) : ZQ P n ops S kp D eff lo hi rank K (o :: rest) i env j := by
 subst hd
 exact ⟨.any, j + 1, .eff hr he fun e x => .inr (h e x), hk⟩
end
end Go.Ab
