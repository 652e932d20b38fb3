/- Rules: a middle state between two codes, appends whatever the token, calls that are lent arrays.  Contracts by content: the reference of pitches, keys and bars.  Contracts by content: the reference's Bars, Bar, Note, Valid of notes.  Contracts by content: the reference's Bar, Note and Valid of notes. No statement is proved here. -/
import Derived.Test.YtdglbdfdkabjfaaGreatDoorP10
import Derived.Test.YtdglbdfdkabjfaaGreatDoorP14
set_option linter.unusedVariables false
set_option linter.unusedSimpArgs false
namespace Go.Ab
section
variable {P : Program} {n : Nat} {K : Exit → Env → Store → Prop} {env : Env} {σ : Store}
theorem AWP.nilFresh {c : Code} (d sz : Nat) (hd : env d = .nils) (hk : AWP P n c K (env.put d (.sl sz [] .fresh)) σ) : AWP P n c K env σ :=
 AWP.weaken (fun M B i x hx => by
  unfold Env.put
  by_cases hi : i = d
  · subst hi
    rw [hd] at hx
    rw [if_pos rfl]
    cases hx with
    | nils => exact .slz sz .fresh rfl
  · rw [if_neg hi]; exact hx) hk
theorem EStep.appendU {ops : Array Oper} {o : Oper} {T : Tab} {k : Env → Store → Prop} (hT : T.Ok P) {s x : Operand} {t tx e : TypeId} {d l sz m : Nat} {es es2 es3 : List (List AV)} {tk : Tok} {u : AV} {s1 b1 : Nat} {z : List Z} {le : LI} (ho : o.op = .call { callee := .builtin .append, args := #[s, x], argTypes := #[t, tx] })
 (hg : o.guard = none) (hd : o.dst = some d) (hdn : d < n) (htok : tk = .own l ∨ es = [] ∧ tk = .fresh) (hs : Rd env s (.sl sz es tk)) (hσ : σ[l]? = some (.own sz es.length)) (hx : Rd env x u) (hsrc : AppSrc T tx sz u es2) (hpos : 0 < es2.length)
 (hl : LOk P t ⟨.slice e, s1, b1, z⟩) (he : LOk P e le) (hsz : le.size = sz) (hz0 : le.zero.length = le.size) (hbound : (es.length + es2.length) * le.bytes ≤ 140737488355328) (hb2 : es.length + es2.length ≤ 9223372036854775807) (h3 : es ++ es2 = es3) (hm : es.length + es2.length = m)
 (hk : k (env.put d (.sl sz es3 (.own l))) (σ.set l (.own sz m))) : EStep P n ops o k env σ := by
 subst h3; subst hm
 rcases htok with rfl | ⟨rfl, rfl⟩
 · exact EStep.appendOwn hT ho hg hd hdn hs hσ hx hsrc hl he hsz hz0 hbound hb2 hk
 · refine EStep.appendAt hT ho hg hd hdn hs hσ hx hsrc hpos hl he hsz hz0 (by simpa using hbound) (by simpa using hb2) ?_
   simpa using hk
def Lend (σ : Store) (u v : AV) : Prop := ∀ (G : Gh) (w : World), SRel G σ w → ∀ x, VRel G.M G.B u x → VRel (memOf w) [] v x
theorem Lend.bor (k : Nat) (u : AV) : Lend σ u (bor k σ u) := fun _ _ hs x h => bor_rel hs k u x h
theorem Lend.of {u v : AV} (k : Nat) (h : Go.Ab.bor k σ u = v) : Lend σ u v := h ▸ Lend.bor k u
theorem Lend.eptr {l sz i ver : Nat} {es : List (List AV)} {e : List AV} (hσ : σ[l]? = some (.arr sz ver es)) (hi : i < es.length) (he : (es.getD i []).map (Go.Ab.bor 3 σ) = e) : Lend σ (.eptr l sz i 0 ver) (.iptr e) := fun G w hs x h => by
 subst he
 cases h with
 | eptr _ _ _ _ _ b q hrr =>
   obtain ⟨ob, cap, n, hB, hle, heq⟩ := hrr
   have ho := hs.objs l _ _ hB hσ
   cases ho with
   | arrz => simp at hi
   | arr b2 cap2 sz2 ver2 es2 c T fr hb hf hl hn hz hr hm =>
     obtain ⟨g1, g2, g3, g4⟩ := heq rfl
     obtain rfl : b2 = b := Option.some.inj g4
     subst g3
     have e1 : es[i]? = some es[i] := zA1 hi
     have e2 : es.getD i [] = es[i] := by rw [zC5, e1]; rfl
     have hzl := hz es[i] (zBs hi)
     refine .iptr _ b2 _ (fun j => c.getD (i * sz + 0 + j) undef) (fun j hj => ?_) fun j c' hj => ?_
     · rw [e2, zBz, hzl] at hj
       have hlt : i * sz + 0 + j < c.size := by
        rw [hl]
        have : (i + 1) * sz ≤ cap * sz := zAp _ (by omega)
        rw [zAx] at this; omega
       have hlt2 : i * sz + j < c.size := by rw [zBj] at hlt; exact hlt
       simp [memOf, World.cell?, hb, hlt2]
     · rw [e2, zA9, zA3] at hj
       obtain ⟨a, ha, rfl⟩ := hj
       exact bor_rel hs 3 _ _ (hr i j es[i] a e1 ha)
theorem Lend.fn {f : Fn} {a c a' c' : List AV} (ha : a'.length = a.length) (hc : c'.length = c.length) (h1 : ∀ (i : Nat) u v, a[i]? = some u → a'[i]? = some v → Lend σ u v) (h2 : ∀ (i : Nat) u v, c[i]? = some u → c'[i]? = some v → Lend σ u v) : Lend σ (.fn f a c) (.fn f a' c') := fun G w hs x h => by
 cases h with
 | fn _ _ _ vf vc hf hc0 g1 g2 =>
   refine .fn f a' c' vf vc (hf.trans ha.symm) (hc0.trans hc.symm) (fun i v hi => ?_) fun i v hi => ?_
   · have hlt : i < a.length := by rw [← ha]; exact (zAb.1 hi).1
     exact h1 i _ v (zA1 hlt) hi G w hs _ (g1 i _ (zA1 hlt))
   · have hlt : i < c.length := by rw [← hc]; exact (zAb.1 hi).1
     exact h2 i _ v (zA1 hlt) hi G w hs _ (g2 i _ (zA1 hlt))
def LendL (σ : Store) : List AV → List AV → Prop
 | [], [] => True
 | u :: l, v :: m => Lend σ u v ∧ LendL σ l m
 | _, _ => False
theorem LendL.get : ∀ {l m : List AV}, LendL σ l m → m.length = l.length ∧ ∀ (i : Nat) (c : AV), m[i]? = some c → ∃ u, l[i]? = some u ∧ Lend σ u c
 | [], [], _ => ⟨rfl, fun i c h => by cases h⟩
 | u :: l, v :: m, h => by
   obtain ⟨h1, h2⟩ := LendL.get h.2
   refine ⟨by rw [zAe, zAe, h1], fun i c hi => ?_⟩
   match i, hi with
   | 0, hi => cases hi; exact ⟨u, rfl, h.1⟩
   | i + 1, hi => exact h2 i c hi
 | [], _ :: _, h => h.elim
 | _ :: _, [], h => h.elim
theorem Lend.fn1 {f : Fn} {u v : AV} (h : Lend σ u v) : Lend σ (.fn f [] [u]) (.fn f [] [v]) := Lend.fn rfl rfl (fun i _ _ hi _ => by cases hi) fun i a b hi hj => by
 match i, hi, hj with
 | 0, hi, hj => cases hi; cases hj; exact h
 | i + 1, hi, _ => cases hi
theorem PRun.callL {o : Oper} {fo : Operand} {args : Array Operand} {Ts : Array TypeId} {k : Nat} {first caps avs : List AV} {r : AV} (h : PCall P k avs r)
 (ho : o.op = .call { callee := .value fo, args := args, argTypes := Ts }) (hf0 : rdv env fo = some (.fn (.func k) first caps)) (nf : rdn env fo)
 (ha : LendL σ (first ++ ((args.toList.map fun x => (envOp env x).st) ++ caps)) avs) (hr : flat r = true) (hn : rdns env args.toList) : PRun P o env σ r := by
 have hf := Rd.w hf0 nf
 have hn := rdns_needs hn
 intro G a w hs hv
 have h1 := rd hf (by simp [ho, Op.operands, Call.operands]) hv
 generalize hA : a.eval fo = y at h1
 cases h1 with
 | fn _ _ _ vf vc hvf hvc h2 h3 =>
   have hrun : (execOp a.eval o).run P w = .ok (.enter k (vf ++ args.map a.eval ++ vc)) w := by
    simp only [execOp, ho, resolve, hA, Deferred.ofValue, Sem.run_bind, Sem.run_pure, Result.andThen_ok, invoke]
    exact run_callFunc h.1 _ w
   unfold OWP
   rw [hrun]
   simp only [uponQ]
   have hargs : ArgsRel (memOf w) avs (vf ++ args.map a.eval ++ vc) := by
    obtain ⟨ha1, ha2⟩ := ha.get
    have hl := hvf
    have hl2 := hvc
    refine ⟨by simp only [ha1, zC0, zBz, zD4, Array.size_map, zBg, hl, hl2, zBy], fun i c hi0 => ?_⟩
    obtain ⟨c', hi, hle⟩ := ha2 i c hi0
    refine hle G w hs _ ?_
    rcases zA5 i vf.size with hlt | hge
    · rw [zA7 (by simpa [← hl] using hlt)] at hi
      have := h2 i c' hi
      have e : (vf ++ args.map a.eval ++ vc).getD i undef = vf.getD i undef := by
       simp only [zA2]
       rw [zBe, zAg hlt]
      rw [e]; exact this
    · rw [zA8 (by simpa [← hl] using hge)] at hi
      simp only [← hl] at hi
      rcases zA5 (i - vf.size) args.size with hlt2 | hge2
      · rw [zA7 (by simpa using hlt2)] at hi
        simp only [zA9, zA3] at hi
        obtain ⟨x, hx, rfl⟩ := hi
        have hxm : x ∈ args.toList := zAc hx
        have := rd (hn.rd x hxm) (by simp [ho, Op.operands, Call.operands]; right; simpa using hxm) hv
        have e : (vf ++ args.map a.eval ++ vc).getD i undef = a.eval x := by
         simp only [zA2]
         rw [zBe, zAo hge, zAg (by simpa using hlt2)]
         simp only [zBa] at hx
         simp [hx]
        rw [e]; exact this
      · rw [zA8 (by simpa using hge2)] at hi
        simp only [zBz, zBg] at hi
        have := h3 _ c' hi
        have e : (vf ++ args.map a.eval ++ vc).getD i undef = vc.getD (i - vf.size - args.size) undef := by
         simp only [zA2]
         rw [zBe, zAo hge, zAo (by simpa using hge2)]
         simp
        rw [e]; exact this
   refine (h.2 (memOf w) w _ (memOf_ok w (hs.memok.g.mono (le_memOf hs.memok))) hargs).mono ?_
   rintro e w' ⟨v, M', rfl, hr', hp⟩
   refine ⟨v, G, rfl, flat_rel hr hr', Gh.Le.refl G, ?_⟩
   have hp' : Post G.M w G.M w' := ⟨Mem.Le.refl _, ⟨fun b o v hb => by
    have h1 := hs.memok.1 b o v hb
    have hlt := World.block_lt_of_cell? _ _ h1
    simp only [World.cell?] at h1 ⊢
    rw [hp.heap b hlt]; exact h1, fun b es hb => by
    obtain ⟨clock, h1⟩ := hs.memok.2 b es hb
    have hlt : b < w.heap.size := by
     rcases zA5 b w.heap.size with h | h
     · exact h
     · simp [zAm h] at h1
    exact ⟨clock, by rw [hp.heap b hlt]; exact h1⟩, hs.memok.g⟩, hp.size, hp.heap, fun _ _ => ⟨fun _ => rfl, rfl⟩, hp.out⟩
   exact hs.after hp'
end
end Go.Ab
namespace Go.Proofs.YtdglbdfdkabjfaaGreatDoor
open Go.Ab
attribute [local irreducible] AWP AOps EStep AQ PStep PRun PCall TCall VCall
theorem r2in_spec (a b c : Int) : PCall Tryz.prog 224 [.int a, .int b, .int c] (.b (inB a b c)) := by
 refine PCall.body Tryz.func224 rfl rfl Tryz.ntmps224 rfl rfl ?_
 repeat' (first | refine aoQ rfl rfl rfl (fun hg => by exact std0) (by exact rfl) ?_ | refine sqW ?_ | refine rgK (fun K' hK => ?_) | (refine aoN (hK _ _ ?_); clear hK K') | refine rtW ?_)
 exact ⟨.inr rfl, Ent.b rfl⟩
theorem r3in_spec (a b c : Int) : PCall Tryz.prog 246 [.int a, .int b, .int c] (.b (inB a b c)) := by
 refine PCall.body Tryz.func246 rfl rfl Tryz.ntmps246 rfl rfl ?_
 repeat' (first | refine aoQ rfl rfl rfl (fun hg => by exact std0) (by exact rfl) ?_ | refine sqW ?_ | refine rgK (fun K' hK => ?_) | (refine aoN (hK _ _ ?_); clear hK K') | refine rtW ?_)
 exact ⟨.inr rfl, Ent.b rfl⟩
theorem r7in_spec (a b c : Int) : PCall Tryz.prog 203 [.int a, .int b, .int c] (.b (inB a b c)) := by
 refine PCall.body Tryz.func203 rfl rfl Tryz.ntmps203 rfl rfl ?_
 repeat' (first | refine aoQ rfl rfl rfl (fun hg => by exact std0) (by exact rfl) ?_ | refine sqW ?_ | refine rgK (fun K' hK => ?_) | (refine aoN (hK _ _ ?_); clear hK K') | refine rtW ?_)
 exact ⟨.inr rfl, Ent.b rfl⟩
theorem r2valid_spec (p : Pitch) : PCall Tryz.prog 200 [.agg (encPi p)] (.b (pitchOk p)) := by
 refine PCall.body Tryz.func200 rfl rfl Tryz.ntmps200 rfl rfl ?_
 repeat' (first | refine aoQ rfl rfl rfl (fun hg => by first | exact std0 | exact pcW (r2in_spec _ _ _) rfl rfl nd rfl nds | exact std1) (by exact rfl) ?_ | refine sqW ?_ | refine rgK (fun K' hK => ?_) | (refine aoN (hK _ _ ?_); clear hK K') | refine aoE (bxW rfl rfl rfl rfl rfl tI rfl rfl ?_) | refine rtW ?_)
 exact ⟨.inr rfl, Ent.b rfl⟩
theorem r2isNote_spec (p : Pitch) : PCall Tryz.prog 202 [.agg (encPi p)] (.b (noteP p)) := by
 refine PCall.body Tryz.func202 rfl rfl Tryz.ntmps202 rfl rfl ?_
 repeat' (first | refine aoQ rfl rfl rfl (fun hg => by first | exact std0 | exact pcW (r2valid_spec p) rfl rfl nd rfl nds | exact pcW (r2in_spec _ _ _) rfl rfl nd rfl nds | exact std1) (by exact rfl) ?_ | refine sqW ?_ | refine rgK (fun K' hK => ?_) | (refine aoN (hK _ _ ?_); clear hK K') | refine aoE (bxW rfl rfl rfl rfl rfl tI rfl rfl ?_) | refine rtW ?_)
 exact ⟨.inr rfl, Ent.b rfl⟩
def natR (s : Int) : Int := if s > 2 then 2 * s - 1 else 2 * s
theorem natural_spec (s : Int) (h : -1000 ≤ s ∧ s ≤ 1000) : PCall Tryz.prog 225 [.int s] (.int (natR s)) := by
 refine PCall.body Tryz.func225 rfl rfl Tryz.ntmps225 rfl rfl ?_
 repeat' (first | refine aoQ rfl rfl rfl (fun hg => by exact std0) (by exact rfl) ?_ | refine sqW ?_ | refine rgK (fun K' hK => ?_) | (refine aoN (hK _ _ ?_); clear hK K') | refine cdN rfl tI (fun hc => ?_) (fun hc => ?_) | refine skW ?_ | refine rtW ?_)
 · exact ⟨.inr rfl, Ent.int (by unfold natR; rw [if_pos hc])⟩
 · exact ⟨.inr rfl, Ent.int (by unfold natR; rw [if_neg (by omega)])⟩
def soundR (p : Pitch) : Int := 12 * p.oct + natR p.step + p.alter
def pitchIn (p : Pitch) : Prop := (0 ≤ p.step ∧ p.step ≤ 6) ∧ (-4 ≤ p.alter ∧ p.alter ≤ 4) ∧ -1000 ≤ p.oct ∧ p.oct ≤ 1000
theorem natR_in {s : Int} (h : -1000 ≤ s ∧ s ≤ 1000) : -2001 ≤ natR s ∧ natR s ≤ 2001 := by unfold natR; split <;> omega
theorem sound_spec (p : Pitch) (h : pitchIn p) : PCall Tryz.prog 201 [.agg (encPi p)] (.int (soundR p)) := by
 obtain ⟨h1, h2, h3⟩ := h
 have hn := natR_in (s := p.step) (by omega)
 have hs := natural_spec p.step (by omega)
 refine PCall.body Tryz.func201 rfl rfl Tryz.ntmps201 rfl rfl ?_
 repeat' (first | refine aoQ rfl rfl rfl (fun hg => by exact std0) (by exact rfl) ?_ | refine sqW ?_ | refine rgK (fun K' hK => ?_) | (refine aoN (hK _ _ ?_); clear hK K') | refine aoE (bxW rfl rfl rfl rfl rfl tI rfl rfl ?_) | refine rtW ?_ | refine dK2 (by decide +kernel) (by kernel_rfl) (by decide +kernel) rfl (fun K' hK => ?_) | (refine aqN (hK _ ?_); clear hK K') | refine aqQ rfl rfl (fun hg => by first | exact std0 | exact pcW (hs) rfl rfl nd rfl nds | exact std1) (by exact rfl) ?_)
 exact ⟨.inr rfl, Ent.int rfl⟩
theorem soundR_num {p : Pitch} (h : pitchOk p = true) : soundR p = (numR2 p).1 := by
 have h1 := pitchOk_iff.1 h
 unfold numR2
 rw [if_pos h]
 show soundR p = pitchNum p
 unfold soundR pitchNum
 have : natR p.step = nat7.getD p.step.toNat 0 := by
  obtain ⟨k, hk⟩ : ∃ k : Nat, p.step = k := ⟨p.step.toNat, by omega⟩
  rw [hk]
  have : k ≤ 6 := by omega
  match k, this with
  | 0, _ | 1, _ | 2, _ | 3, _ | 4, _ | 5, _ | 6, _ => decide
 omega
theorem pitchIn_ok {p : Pitch} (h : pitchOk p = true) : pitchIn p := by
 have h1 := pitchOk_iff.1 h
 unfold pitchIn; omega
theorem r3interval_spec (i : Interval) : PCall Tryz.prog 233 [.agg (encI i)] (.b (intervalOk i)) := by
 refine PCall.body Tryz.func233 rfl rfl Tryz.ntmps233 rfl rfl ?_
 repeat' (first | refine aoQ rfl rfl rfl (fun hg => by first | exact std0 | exact pcW (r3in_spec _ _ _) rfl rfl nd rfl nds | exact std1) (by exact rfl) ?_ | refine sqW ?_ | refine rgK (fun K' hK => ?_) | (refine aoN (hK _ _ ?_); clear hK K') | refine aoE (bxW rfl rfl rfl rfl rfl tI rfl rfl ?_) | refine rtW ?_)
 exact ⟨.inr rfl, Ent.b rfl⟩
theorem r3fifths_spec (i : Interval) : PCall Tryz.prog 223 [.agg (encI i)] (.tup [.int (fifthsR i).1, .int (fifthsR i).2]) := by
 have v := r3interval_spec i
 refine PCall.body Tryz.func223 rfl rfl Tryz.ntmps223 rfl rfl ?_
 by_cases h : intervalOk i = true
 · have h1 := intervalOk_iff.1 h
   repeat' (first | refine aoQ rfl rfl rfl (fun hg => by first | exact std0 | exact pcW (v) rfl rfl nd rfl nds | exact std1) (by exact rfl) ?_ | refine sqW ?_ | refine rgK (fun K' hK => ?_) | (refine aoN (hK _ _ ?_); clear hK K') | refine aoE (bxW rfl rfl rfl rfl rfl tI rfl rfl ?_) | refine cdN rfl tI (fun hc => ?_) (fun hc => ?_) | refine skW ?_ | refine rtW ?_)
   · exfalso; simp [h] at hc
   · refine ⟨.inr rfl, Ent.of ?_⟩
     rw [show fifthsR i = (7 * i.semi - 12 * i.steps, 0) from by unfold fifthsR; rw [if_pos h]]; rfl
 · repeat' (first | refine aoQ rfl rfl rfl (fun hg => by first | exact std0 | exact pcW (v) rfl rfl nd rfl nds | exact std1) (by exact rfl) ?_ | refine sqW ?_ | refine rgK (fun K' hK => ?_) | (refine aoN (hK _ _ ?_); clear hK K') | refine aoE (bxW rfl rfl rfl rfl rfl tI rfl rfl ?_) | refine cdN rfl tI (fun hc => ?_) (fun hc => ?_) | refine skW ?_ | refine rtW ?_)
   · refine ⟨.inr rfl, Ent.of ?_⟩
     rw [show fifthsR i = (0, 1) from by unfold fifthsR; rw [if_neg h]]; rfl
   all_goals (exfalso; simp [h] at hc)
theorem gcd6_nat (a b : Nat) (ha : a ≤ 1000000000) (hb : b ≤ 1000000000) : PCall Tryz.prog 76 [.int a, .int b] (.int (Nat.gcd a b)) := by
 refine PCall.body Tryz.func76 rfl rfl Tryz.ntmps76 rfl rfl ?_
 repeat' (first | refine aoQ rfl rfl rfl (fun hg => by exact std0) (by exact rfl) ?_ | refine sqW ?_ | refine rgK (fun K' hK => ?_) | (refine aoN (hK _ _ ?_); clear hK K') | refine blK ?_)
 refine lpW (ι := Nat × Nat) (fun i => [(0, .int i.1), (1, .int i.2)]) (fun _ => []) (fun i => Nat.gcd i.1 i.2 = Nat.gcd a b ∧ i.1 ≤ 1000000000 ∧ i.2 ≤ 1000000000) (fun i => i.2) (a, b) ⟨rfl, ha, hb⟩ ⟨rfl, rfl, tI⟩ rfl ?_
 rintro ⟨x, y⟩ ⟨g1, g2, g3⟩
 dsimp only at g1 g2 g3 ⊢
 by_cases h0 : y = 0
 · subst h0
   repeat' (first | refine aoQ rfl rfl rfl (fun hg => by exact std0) (by exact rfl) ?_ | refine sqW ?_ | refine rgK (fun K' hK => ?_) | (refine aoN (hK _ _ ?_); clear hK K') | refine cdN rfl tI (fun hc => ?_) (fun hc => ?_) | refine blK ?_ | refine exW ?_ | refine skW ?_ | refine rtW ?_)
   · exfalso; simp at hc
   · exact ⟨.inr rfl, Ent.int (by rw [← g1]; simp)⟩
 · have hm : x % y < y := zCv _ (by omega)
   repeat' (first | refine aoQ rfl rfl rfl (fun hg => by exact std0) (by exact rfl) ?_ | refine sqW ?_ | refine rgK (fun K' hK => ?_) | (refine aoN (hK _ _ ?_); clear hK K') | refine cdN rfl tI (fun hc => ?_) (fun hc => ?_) | refine blK ?_ | refine exW ?_ | refine skW ?_ | refine rtW ?_)
   · refine ⟨(y, x % y), ⟨?_, g3, by omega⟩, hm, ⟨rfl, rfl, tI⟩, rfl⟩
     rw [← g1, Nat.gcd_comm x y, Nat.gcd_rec y x, Nat.gcd_comm]
   · exfalso; simp at hc; omega
theorem gcd6_spec (a b : Int) (h : (0 ≤ a ∧ a ≤ 1000000000) ∧ 0 ≤ b ∧ b ≤ 1000000000) : PCall Tryz.prog 76 [.int a, .int b] (.int (Int.gcd a b)) := by
 have h1 := gcd6_nat a.toNat b.toNat (by omega) (by omega)
 have ea : ((a.toNat : Nat) : Int) = a := by omega
 have eb : ((b.toNat : Nat) : Int) = b := by omega
 rw [ea, eb] at h1
 have : Nat.gcd a.toNat b.toNat = Int.gcd a b := by
  conv => rhs; rw [← ea, ← eb, Int.gcd_natCast_natCast]
 rw [this] at h1; exact h1
def ticksX (r : Rat) : Int := if durOk r then ticksV r else -1
theorem div1680 {d : Int} (h1 : 1 ≤ d) (h : Int.tmod 1680 d = 0) : d ≤ 1680 := Int.le_of_dvd (by decide) (Int.dvd_of_tmod_eq_zero h)
def tickBad (r : Rat) : Bool := ((decide (r.d < 1) || Int.tmod 1680 r.d != 0) || decide (r.n < 0)) || decide (r.n > 1000000000)
theorem tickGood {r : Rat} (h : (tickBad r == false) = true) : (0 ≤ r.n ∧ r.n ≤ 1000000000) ∧ 0 ≤ r.d ∧ r.d ≤ 1000000000 := by
 simp [tickBad] at h
 have := div1680 (d := r.d) (by omega) h.1.1.2
 omega
theorem durOk_tick (r : Rat) : durOk r = !(tickBad r || ((Int.gcd r.n r.d : Nat) : Int) != 1) := by
 rw [zAl, durOk_iff, ratOk_iff]
 simp only [tickBad, zB8, zAk, dEf, bne_eq_false_iff_eq]
 constructor
 · rintro ⟨⟨h1, h2, h3, h4, h5⟩, h6, h7⟩
   exact ⟨⟨⟨⟨by omega, h7⟩, by omega⟩, by omega⟩, by omega⟩
 · rintro ⟨⟨⟨⟨h1, h7⟩, h2⟩, h3⟩, h4⟩
   have := div1680 (d := r.d) (by omega) h7
   exact ⟨⟨by omega, by omega, by omega, by omega, by omega⟩, by omega, h7⟩
theorem ticks6_spec (r : Rat) : PCall Tryz.prog 24 [.agg (encR r)] (.int (ticksX r)) := by
 by_cases h : durOk r = true
 · have h1 := durOk_iff.1 h
   have h2 := ratOk_iff.1 h1.1
   have h3 := tdiv1680 h1.1
   have h4 := mul_in (x := r.n) (y := Int.tdiv 1680 r.d) (A := 1000000000) (B := 1680) (by omega) h3
   refine PCall.body Tryz.func24 rfl rfl Tryz.ntmps24 rfl rfl ?_
   repeat' (first | refine aoQ rfl rfl rfl (fun hg => by first | exact std0 | exact pcW (gcd6_spec r.n r.d ⟨by omega, by omega⟩) rfl rfl nd rfl nds | exact std1) (by exact rfl) ?_ | refine sqW ?_ | refine rgK (fun K' hK => ?_) | (refine aoN (hK _ _ ?_); clear hK K') | refine aoE (bxW rfl rfl rfl rfl rfl tI rfl rfl ?_) | refine cdN rfl tI (fun hc => ?_) (fun hc => ?_) | refine skW ?_ | refine rtW ?_ | refine dK2 (by decide +kernel) (by kernel_rfl) (by decide +kernel) rfl (fun K' hK => ?_) | (refine aqN (hK _ ?_); clear hK K') | refine aqQ rfl rfl (fun hg => by exact std0) (by exact rfl) ?_)
   · exfalso
     have e := durOk_tick r
     rw [h] at e
     have : (tickBad r || ((Int.gcd r.n r.d : Nat) : Int) != 1) = true := hc
     rw [this] at e; simp at e
   · exact ⟨.inr rfl, Ent.int (by unfold ticksX; rw [if_pos h]; rfl)⟩
 · by_cases hd : r.d < 1
   · have hd' : ∀ {b : Bool}, ((decide (r.d < 1) || b) == false) = true → False := fun h => by simp [hd] at h
     refine PCall.body Tryz.func24 rfl rfl Tryz.ntmps24 rfl rfl ?_
     repeat' (first | refine aoQ rfl rfl rfl (fun hg => by first | exact std0 | exact pcW (gcd6_spec r.n r.d (tickGood hg)) rfl rfl nd rfl nds | exact std1) (by exact rfl) ?_ | refine sqW ?_ | refine rgK (fun K' hK => ?_) | (refine aoN (hK _ _ ?_); clear hK K') | refine aoE (bxW rfl rfl rfl rfl rfl tI rfl rfl ?_) | refine cdN rfl tI (fun hc => ?_) (fun hc => ?_) | refine skW ?_ | refine rtW ?_)
     · exact ⟨.inr rfl, Ent.int (by unfold ticksX; rw [if_neg h])⟩
     · exfalso
       simp [hd] at hc
   · refine PCall.body Tryz.func24 rfl rfl Tryz.ntmps24 rfl rfl ?_
     repeat' (first | refine aoQ rfl rfl rfl (fun hg => by first | exact std0 | exact pcW (gcd6_spec r.n r.d (tickGood hg)) rfl rfl nd rfl nds | exact std1) (by exact rfl) ?_ | refine sqW ?_ | refine rgK (fun K' hK => ?_) | (refine aoN (hK _ _ ?_); clear hK K') | refine aoE (bxW rfl rfl rfl rfl rfl tI rfl rfl ?_) | refine cdN rfl tI (fun hc => ?_) (fun hc => ?_) | refine skW ?_ | refine rtW ?_)
     · exact ⟨.inr rfl, Ent.int (by unfold ticksX; rw [if_neg h])⟩
     · exfalso
       have e := durOk_tick r
       have : (tickBad r || ((Int.gcd r.n r.d : Nat) : Int) != 1) = false := hc
       rw [this] at e
       exact h (by simpa using e)
theorem quot1680 {d : Int} (h1 : 1 ≤ d) (h : Int.tmod 1680 d = 0) : d * Int.tdiv 1680 d = 1680 ∧ 1 ≤ Int.tdiv 1680 d := by
 have e := Int.mul_tdiv_add_tmod 1680 d
 rw [h, Int.add_zero] at e
 refine ⟨e, ?_⟩
 rcases (show 0 < Int.tdiv 1680 d ∨ Int.tdiv 1680 d ≤ 0 by omega) with h2 | h2
 · omega
 · exfalso
   have := zCt (a := Int.tdiv 1680 d) (b := 0) (c := d) h2 (by omega)
   omega
theorem barT (b : Bar) : barOk b = !(((((decide (b.id < 1) || decide (b.id > 1000000)) || decide (ticksX b.len < 1)) || decide (ticksX b.len > 40320)) || decide (b.key < -7)) || decide (b.key > 7)) := by
 have key : barC b = (decide (ticksX b.len < 1) || decide (ticksX b.len > 40320)) := by
  unfold barC ticksX
  by_cases h : durOk b.len = true
  · have h1 := durOk_iff.1 h
    have h2 := ratOk_iff.1 h1.1
    obtain ⟨q1, q2⟩ := quot1680 h2.1 h1.2.2
    rw [if_pos h, h]
    have hr : ratCmp ⟨24, 1⟩ b.len = if 24 * b.len.d < b.len.n * 1 then (-1, 0) else if 24 * b.len.d > b.len.n * 1 then (1, 0) else (0, 0) := by
     unfold ratCmp; rw [if_pos (by rw [h1.1]; decide)]
    rw [hr]
    have e1 : (b.len.n == 0) = decide (ticksV b.len < 1) := by
     rw [zAl]; simp only [beq_iff_eq, dEt]
     unfold ticksV
     constructor
     · intro h; rw [h]; omega
     · intro h3
       rcases (show 0 < b.len.n ∨ b.len.n ≤ 0 by omega) with h4 | h4
       · have := zCt (a := 1) (b := Int.tdiv 1680 b.len.d) (c := b.len.n) q2 (by omega)
         omega
       · omega
    have e2 : decide ((if 24 * b.len.d < b.len.n * 1 then ((-1 : Int), (0 : Int)) else if 24 * b.len.d > b.len.n * 1 then (1, 0) else (0, 0)).1 < 0) = decide (ticksV b.len > 40320) := by
     rw [zAl]; simp only [dEt]
     have e3 : 24 * b.len.d * Int.tdiv 1680 b.len.d = 40320 := by rw [Int.mul_assoc, q1]; decide
     unfold ticksV
     split
     · rename_i h3
       have := Int.mul_lt_mul_of_pos_right (a := 24 * b.len.d) (b := b.len.n) (c := Int.tdiv 1680 b.len.d) (by omega) (by omega)
       constructor
       · intro _; omega
       · intro _; decide
     · rename_i h3
       have := zCq (a := b.len.n) (b := 24 * b.len.d) (c := Int.tdiv 1680 b.len.d) (by omega) (by omega)
       constructor
       · intro h; split at h <;> simp at h
       · intro h; omega
    rw [e1, e2]; rfl
  · have : durOk b.len = false := by simpa using h
    rw [this]; simp
 unfold barOk
 rw [key]
 unfold barA
 generalize decide (b.id < 1) = a1
 generalize decide (b.id > 1000000) = a2
 generalize decide (ticksX b.len < 1) = a3
 generalize decide (ticksX b.len > 40320) = a4
 generalize decide (b.key < -7) = a5
 generalize decide (b.key > 7) = a6
 revert a1 a2 a3 a4 a5 a6; decide
theorem mem_take {α : Type} [Inhabited α] (f : α → Int) {l : List α} {k : Nat} (hk : k ≤ l.length) {x : Int} : x ∈ (l.take k).map f ↔ ∃ j, j < k ∧ f (l.getD j default) = x := by
 rw [lMm]
 constructor
 · rintro ⟨a, ha, rfl⟩
   obtain ⟨j, hj, rfl⟩ := zB0.1 ha
   simp only [zC4] at hj
   refine ⟨j, by omega, ?_⟩
   rw [getD_lt (show j < l.length by omega), List.getElem_take]
 · rintro ⟨j, hj, rfl⟩
   refine ⟨l.getD j default, ?_, rfl⟩
   rw [getD_lt (show j < l.length by omega), zB0]
   exact ⟨j, by simp; omega, by rw [List.getElem_take]⟩
theorem r6valid_spec (l : List Bar) (hl : l.length ≤ 9223372036854775807) : PCall Tryz.prog 114 [.sl 4 (l.map encB) .no] (.b (barsOk l)) := by
 refine PCall.body Tryz.func114 rfl rfl Tryz.ntmps114 rfl rfl ?_
 repeat' (first | refine aoQ rfl rfl rfl (fun hg => by first | exact std0 | exact std1) (by exact rfl) ?_ | refine sqW ?_ | refine rgK (fun K' hK => ?_) | (refine aoN (hK _ _ ?_); clear hK K') | refine cdN rfl tI (fun hc => ?_) (fun hc => ?_) | refine blK ?_ | refine skW ?_ | refine rtW ?_)
 · refine ⟨.inr rfl, Ent.b (Eq.symm ?_)⟩
   unfold barsOk
   simp at hc
   by_cases h : 1 ≤ l.length
   · rw [decide_eq_false (show ¬ l.length ≤ 4000 by omega)]; simp
   · rw [decide_eq_false h]; simp
 have hn : 1 ≤ l.length ∧ l.length ≤ 4000 := by simp at hc; omega
 clear hc
 refine lpW (ι := Nat) (fun k => [(0, .sl 4 (l.map encB) .no), (3, .int k)]) (fun _ => []) (fun k => k ≤ l.length ∧ (∀ j, j < k → barOk (l.getD j default) = true) ∧ ((l.take k).map (·.id)).Nodup) (fun k => l.length - k) 0 ⟨nZl _, fun j h => absurd h (by omega), by simp⟩ ⟨rfl, rfl, tI⟩ rfl ?_
 rintro k ⟨hk, hall, hnd⟩
 by_cases hlt : k < l.length
 · have ht := ticks6_spec (l.getD k default).len
   have hb := barT (l.getD k default)
   repeat' (first | refine aoQ rfl rfl rfl (fun hg => by first | exact std0 | exact pcW (ht) rfl rfl nd rfl nds | exact std1) (by exact rfl) ?_ | refine sqW ?_ | refine rgK (fun K' hK => ?_) | (refine aoN (hK _ _ ?_); clear hK K') | refine cdN rfl tI (fun hc => ?_) (fun hc => ?_) | refine blK ?_ | refine exW ?_ | refine skW ?_ | refine rtW ?_)
   · refine ⟨.inr rfl, Ent.b (Eq.symm (barsOk_bad hlt ?_))⟩
     rw [zAa] at hc
     rw [hb, hc]; rfl
   · rw [zAa] at hc
     have hbo : barOk (l.getD k default) = true := by rw [hb, hc]; rfl
     clear hc hb ht
     refine lpW (ι := Nat) (fun j => [(0, .sl 4 (l.map encB) .no), (3, .int k), (5, .int j)]) (fun _ => []) (fun j => j ≤ k ∧ ∀ i, i < j → (l.getD i default).id ≠ (l.getD k default).id) (fun j => k - j) 0 ⟨nZl _, fun j h => absurd h (by omega)⟩ ⟨rfl, rfl, rfl, tI⟩ rfl ?_
     rintro j ⟨hj, hne⟩
     by_cases hjk : j < k
     · repeat' (first | refine aoQ rfl rfl rfl (fun hg => by exact std0) (by exact rfl) ?_ | refine sqW ?_ | refine rgK (fun K' hK => ?_) | (refine aoN (hK _ _ ?_); clear hK K') | refine cdN rfl tI (fun hc => ?_) (fun hc => ?_) | refine blK ?_ | refine exW ?_ | refine skW ?_ | refine rtW ?_ | refine dK2 (by decide +kernel) (by kernel_rfl) (by decide +kernel) rfl (fun K' hK => ?_) | (refine aqN (hK _ ?_); clear hK K') | refine aqQ rfl rfl (fun hg => by first | exact std0 | exact std1) (by exact rfl) ?_)
       · refine ⟨.inr rfl, Ent.b (Eq.symm (barsOk_dup hlt ((mem_take (fun b : Bar => b.id) hk).2 ⟨j, hjk, ?_⟩)))⟩
         simpa using hc
       · exact ⟨j + 1, ⟨by omega, fun i hi => lt_succ_cases hne (by simpa using hc) hi⟩, by omega, ⟨rfl, rfl, rfl, tI⟩, rfl⟩
       · exfalso; omega
     · repeat' (first | refine aoQ rfl rfl rfl (fun hg => by exact std0) (by exact rfl) ?_ | refine sqW ?_ | refine rgK (fun K' hK => ?_) | (refine aoN (hK _ _ ?_); clear hK K') | refine cdN rfl tI (fun hc => ?_) (fun hc => ?_) | refine blK ?_ | refine exW ?_ | refine skW ?_ | refine rtW ?_ | refine dK2 (by decide +kernel) (by kernel_rfl) (by decide +kernel) rfl (fun K' hK => ?_) | (refine aqN (hK _ ?_); clear hK K') | refine aqQ rfl rfl (fun hg => by first | exact std0 | exact std1) (by exact rfl) ?_)
       all_goals (first | (exfalso; omega) | skip)
       · refine ⟨k + 1, ⟨by omega, fun i hi => lt_succ_cases hall hbo hi, (nodup_succ _ l k hlt).2 ⟨hnd, fun hm => ?_⟩⟩, by omega, ⟨rfl, rfl, tI⟩, rfl⟩
         obtain ⟨i, hi, e⟩ := (mem_take (fun b : Bar => b.id) hk).1 hm
         exact hne i (by omega) e
   · exfalso; omega
 · repeat' (first | refine aoQ rfl rfl rfl (fun hg => by first | exact std0 | exact std1) (by exact rfl) ?_ | refine sqW ?_ | refine rgK (fun K' hK => ?_) | (refine aoN (hK _ _ ?_); clear hK K') | refine cdN rfl tI (fun hc => ?_) (fun hc => ?_) | refine blK ?_ | refine exW ?_ | refine skW ?_ | refine rtW ?_)
   · exfalso; omega
   · refine ⟨.inr rfl, Ent.b ?_⟩
     have htk : l.take k = l := zAi (by omega)
     rw [htk] at hnd
     unfold barsOk
     rw [all_yes fun j hj => hall j (by omega), decide_eq_true hnd, decide_eq_true hn.1, decide_eq_true hn.2]; rfl
def barAt (bars : List Bar) (id : Int) : Int := findI (fun b : Bar => b.id == id) bars
theorem r7bar_spec (l : List Bar) (id : Int) (hl : l.length ≤ 9223372036854775807) : PCall Tryz.prog 19 [.sl 4 (l.map encB) .no, .int id] (.int (barAt l id)) := by
 refine PCall.body Tryz.func19 rfl rfl Tryz.ntmps19 rfl rfl ?_
 repeat' (first | refine aoQ rfl rfl rfl (fun hg => by exact std0) (by exact rfl) ?_ | refine sqW ?_ | refine rgK (fun K' hK => ?_) | (refine aoN (hK _ _ ?_); clear hK K') | refine blK ?_)
 refine lpW (ι := Nat) (fun k => [(0, .sl 4 (l.map encB) .no), (1, .int id), (5, .int k)]) (fun _ => []) (fun k => k ≤ l.length ∧ ∀ j, j < k → ((l.getD j default).id == id) = false) (fun k => l.length - k) 0 ⟨nZl _, fun j h => absurd h (by omega)⟩ ⟨rfl, rfl, rfl, tI⟩ rfl ?_
 rintro k ⟨hk, hall⟩
 by_cases hlt : k < l.length
 · repeat' (first | refine aoQ rfl rfl rfl (fun hg => by first | exact std0 | exact std1) (by exact rfl) ?_ | refine sqW ?_ | refine rgK (fun K' hK => ?_) | (refine aoN (hK _ _ ?_); clear hK K') | refine cdN rfl tI (fun hc => ?_) (fun hc => ?_) | refine blK ?_ | refine exW ?_ | refine skW ?_ | refine rtW ?_)
   · refine ⟨.inr rfl, Ent.int ?_⟩
     exact (findI_at hlt hc hall).symm
   · exact ⟨k + 1, ⟨by omega, fun j hj => lt_succ_cases hall hc hj⟩, by omega, ⟨rfl, rfl, rfl, tI⟩, rfl⟩
   · exfalso; omega
 · repeat' (first | refine aoQ rfl rfl rfl (fun hg => by first | exact std0 | exact std1) (by exact rfl) ?_ | refine sqW ?_ | refine rgK (fun K' hK => ?_) | (refine aoN (hK _ _ ?_); clear hK K') | refine cdN rfl tI (fun hc => ?_) (fun hc => ?_) | refine blK ?_ | refine exW ?_ | refine skW ?_ | refine rtW ?_)
   all_goals (first | (exfalso; omega) | skip)
   refine ⟨.inr rfl, Ent.int ?_⟩
   exact (findI_no fun j hj => hall j (by omega)).symm
theorem lk_idx_none (l : List Bar) (id : Int) : ∀ k, lk (idxALk l k) id = none → ∀ j, j < k → (l.getD j default).id ≠ id
 | 0, _, j, hj => absurd hj (by omega)
 | k + 1, h, j, hj => by
   rw [idxAL_succ, lk_ins'] at h
   split at h
   · cases h
   · rename_i e
     exact lt_succ_cases (lk_idx_none l id k h) e hj
theorem nodup_at {α : Type} [Inhabited α] (f : α → Int) {l : List α} (hn : (l.map f).Nodup) {i j : Nat} (hi : i < l.length) (hj : j < l.length) (e : f (l.getD i default) = f (l.getD j default)) : i = j := by
 rw [getD_lt hi, getD_lt hj] at e
 exact (List.getElem_inj (h₀ := by simpa using hi) (h₁ := by simpa using hj) hn).1 (by simpa using e)
theorem barsOk_nodup {l : List Bar} (h : barsOk l = true) : (l.map (·.id)).Nodup := by
 unfold barsOk at h; simp only [zA0, dEt] at h; exact h.1.1.2
theorem lk_bar {l : List Bar} (hn : (l.map (·.id)).Nodup) (id : Int) : (lk (idxAL l) id = none ∧ barAt l id = -1) ∨ ∃ j : Nat, lk (idxAL l) id = some (j : Int) ∧ barAt l id = j ∧ j < l.length ∧ (l.getD j default).id = id := by
 rw [idxAL_eq]
 cases h : lk (idxALk l l.length) id with
 | none =>
   left
   exact ⟨rfl, findI_no fun j hj => by have := lk_idx_none l id _ h j hj; simpa using this⟩
 | some i =>
   right
   obtain ⟨j, rfl, h2, h3⟩ := lk_idx l id _ _ h
   refine ⟨j, rfl, findI_at h2 (by simpa using h3) fun i hi => ?_, h2, h3⟩
   have : (l.getD i default).id ≠ id := fun e => by
    have := nodup_at (fun b : Bar => b.id) hn (show i < l.length by omega) h2 (by rw [e, h3])
    omega
   simpa using this
def noteX (bars : List Bar) (n : Note) : Bool := !(((((decide (barAt bars n.bar < 0) || !noteP n.pitch) || !inB n.id 1 1000000) || !inB n.part 1 1000000) || !inB n.voice 0 9) || !inB n.ossia 0 20) &&
 ((decide (ticksX n.start ≥ 0) && decide (ticksX n.len > 0)) && decide (ticksX n.start + ticksX n.len ≤ ticksX (bars.getD (barAt bars n.bar).toNat default).len))
theorem ticksX_in (r : Rat) : -1 ≤ ticksX r ∧ ticksX r ≤ 1680000000000 := by
 have := ticksR_in r
 unfold ticksX
 unfold ticksR at this
 split
 · rename_i h; rw [if_pos h] at this; dsimp only at this; omega
 · omega
theorem barAt_in (bars : List Bar) (id : Int) : -1 ≤ barAt bars id ∧ barAt bars id < bars.length := by
 rcases (show barAt bars id < 0 ∨ 0 ≤ barAt bars id by omega) with h | h
 · have := findI_neg.1 h
   unfold barAt at *; omega
 · obtain ⟨k, h1, h2, _⟩ := findI_lt h
   unfold barAt at *; omega
theorem r7note_spec (bars : List Bar) (n : Note) (hb : bars.length ≤ 9223372036854775807) : PCall Tryz.prog 164 [.sl 4 (bars.map encB) .no, .agg (encN n)] (.b (noteX bars n)) := by
 have h1 := r7bar_spec bars n.bar hb
 have h2 := r2isNote_spec n.pitch
 have h3 := ticks6_spec n.start
 have h4 := ticks6_spec n.len
 have h5 := ticks6_spec (bars.getD (barAt bars n.bar).toNat default).len
 have q1 := ticksX_in n.start
 have q2 := ticksX_in n.len
 have q3 := barAt_in bars n.bar
 refine PCall.body Tryz.func164 rfl rfl Tryz.ntmps164 rfl rfl ?_
 repeat' (first | refine aoQ rfl rfl rfl (fun hg => by first | exact std0 | exact pcW (h1) rfl rfl nd rfl nds | exact pcW (h2) rfl rfl nd rfl nds | exact pcW (r7in_spec _ _ _) rfl rfl nd rfl nds | exact std1) (by exact rfl) ?_ | refine sqW ?_ | refine rgK (fun K' hK => ?_) | (refine aoN (hK _ _ ?_); clear hK K') | refine aoE (bxW rfl rfl rfl rfl rfl tI rfl rfl ?_) | refine cdN rfl tI (fun hc => ?_) (fun hc => ?_) | refine skW ?_ | refine rtW ?_)
 · refine ⟨.inr rfl, Ent.b (Eq.symm ?_)⟩
   unfold noteX; rw [hc]; rfl
 · have hx : 0 ≤ barAt bars n.bar := by
    simp only [zAk, dEf] at hc; omega
   repeat' (first | refine aoQ rfl rfl rfl (fun hg => by first | exact std0 | exact pcW (h3) rfl rfl nd rfl nds | exact pcW (h4) rfl rfl nd rfl nds | exact pcW (h5) rfl rfl nd rfl nds | exact piW tabOk rfl rfl nd rfl nd rfl rfl ⟨hx, q3.2⟩ | exact std1) (by exact rfl) ?_ | refine sqW ?_ | refine rgK (fun K' hK => ?_) | (refine aoN (hK _ _ ?_); clear hK K') | refine rtW ?_)
   refine ⟨.inr rfl, Ent.b (Eq.symm ?_)⟩
   unfold noteX; rw [hc]; rfl
theorem noteX_ok {bars : List Bar} (hb : barsOk bars = true) (n : Note) : noteX bars n = noteOk bars n := by
 have hd : ∀ r : Rat, ((ticksR r).2 = true ∧ ticksX r = (ticksR r).1 ∧ 0 ≤ ticksX r) ∨ ((ticksR r).2 = false ∧ ticksX r = -1 ∧ (ticksR r).1 = 0) := fun r => by
  have := ticksR_in r
  unfold ticksR ticksX at *
  by_cases h : durOk r = true
  · left; rw [if_pos h, if_pos h] at *; exact ⟨rfl, rfl, this.1⟩
  · right; rw [if_neg h, if_neg h]; exact ⟨rfl, rfl, rfl⟩
 unfold noteX noteOk
 rcases lk_bar (barsOk_nodup hb) n.bar with ⟨h1, h2⟩ | ⟨j, h1, h2, h3, h4⟩
 · rw [h1, h2]; simp
 · rw [h1, h2]
   have hlen : (ticksR (bars.getD j default).len).2 = true := by
    have h5 : barOk (bars.getD j default) = true := by
     unfold barsOk at hb; simp only [zA0, zA6] at hb
     exact hb.1.1.1 _ (by rw [getD_lt h3]; exact lGm h3)
    unfold barOk barC at h5
    unfold ticksR
    by_cases h : durOk (bars.getD j default).len = true
    · rw [if_pos h]
    · exfalso
      have : durOk (bars.getD j default).len = false := by simpa using h
      rw [this] at h5; simp at h5
   simp only [zAa]
   have e1 : decide ((j : Int) < 0) = false := by simp
   rw [e1]
   unfold nformed fits noteForm
   rcases hd (bars.getD j default).len with ⟨a1, a2, a3⟩ | ⟨a1, a2, a3⟩
   · simp only [a2]
     have key : (decide (ticksX n.start ≥ 0) && decide (ticksX n.len > 0) && decide (ticksX n.start + ticksX n.len ≤ (ticksR (bars.getD j default).len).1)) =
      ((ticksR n.start).2 && (ticksR n.len).2 && decide ((ticksR n.len).1 > 0) && decide ((ticksR n.start).1 + (ticksR n.len).1 ≤ (ticksR (bars.getD j default).len).1)) := by
      rcases hd n.start with ⟨b1, b2, b3⟩ | ⟨b1, b2, b3⟩ <;> rcases hd n.len with ⟨c1, c2, c3⟩ | ⟨c1, c2, c3⟩ <;> simp only [b1, c1, b2, c2]
      · rw [b2] at b3; rw [decide_eq_true (show (ticksR n.start).1 ≥ 0 from b3)]; rfl
      · simp
      · simp
      · simp
     rw [key]
     generalize noteP n.pitch = z1
     generalize inB n.id 1 1000000 = z2
     generalize inB n.part 1 1000000 = z3
     generalize inB n.voice 0 9 = z4
     generalize inB n.ossia 0 20 = z5
     generalize ((ticksR n.start).2 && (ticksR n.len).2 && decide ((ticksR n.len).1 > 0) && decide ((ticksR n.start).1 + (ticksR n.len).1 ≤ (ticksR (bars.getD j default).len).1)) = z6
     revert z1 z2 z3 z4 z5 z6; decide
   · rw [hlen] at a1; cases a1
theorem r7valid_spec (bars : List Bar) (l : List Note) (hb : bars.length ≤ 9223372036854775807) (hl : l.length ≤ 9223372036854775807) :
 PCall Tryz.prog 117 [.sl 4 (bars.map encB) .no, .sl 12 (l.map encN) .no] (.b (notesOk bars l)) := by
 have v := r6valid_spec bars hb
 refine PCall.body Tryz.func117 rfl rfl Tryz.ntmps117 rfl rfl ?_
 repeat' (first | refine aoQ rfl rfl rfl (fun hg => by first | exact std0 | exact pcW (v) rfl rfl nd rfl nds | exact std1) (by exact rfl) ?_ | refine sqW ?_ | refine rgK (fun K' hK => ?_) | (refine aoN (hK _ _ ?_); clear hK K') | refine cdN rfl tI (fun hc => ?_) (fun hc => ?_) | refine blK ?_ | refine skW ?_ | refine rtW ?_)
 · refine ⟨.inr rfl, Ent.b (Eq.symm ?_)⟩
   unfold notesOk
   cases h : barsOk bars with
   | false => simp
   | true =>
     rw [h] at hc; simp at hc
     have : decide ((l.length : Int) ≤ 20000) = false := by simp; omega
     rw [this]; simp
 have h1 : barsOk bars = true ∧ (l.length : Int) ≤ 20000 := by
  simp only [zAk, zB7, dEf] at hc
  exact ⟨hc.1, by omega⟩
 clear hc
 refine lpW (ι := Nat) (fun k => [(0, .sl 4 (bars.map encB) .no), (1, .sl 12 (l.map encN) .no), (6, .int k)]) (fun _ => []) (fun k => k ≤ l.length ∧ (∀ j, j < k → noteOk bars (l.getD j default) = true) ∧ ((l.take k).map (·.id)).Nodup) (fun k => l.length - k) 0 ⟨nZl _, fun j h => absurd h (by omega), by simp⟩ ⟨rfl, rfl, rfl, tI⟩ rfl ?_
 rintro k ⟨hk, hall, hnd⟩
 by_cases hlt : k < l.length
 · have ht := r7note_spec bars (l.getD k default) hb
   have he := noteX_ok h1.1 (l.getD k default)
   repeat' (first | refine aoQ rfl rfl rfl (fun hg => by first | exact std0 | exact pcW (ht) rfl rfl nd rfl nds | exact std1) (by exact rfl) ?_ | refine sqW ?_ | refine rgK (fun K' hK => ?_) | (refine aoN (hK _ _ ?_); clear hK K') | refine cdN rfl tI (fun hc => ?_) (fun hc => ?_) | refine blK ?_ | refine exW ?_ | refine skW ?_ | refine rtW ?_)
   · refine ⟨.inr rfl, Ent.b (Eq.symm (notesOk_bad hlt ?_))⟩
     rw [← he]; simpa using hc
   · have hbo : noteOk bars (l.getD k default) = true := by rw [← he]; simpa using hc
     clear hc he ht
     refine lpW (ι := Nat) (fun j => [(0, .sl 4 (bars.map encB) .no), (1, .sl 12 (l.map encN) .no), (6, .int k), (8, .int j)]) (fun _ => []) (fun j => j ≤ k ∧ ∀ i, i < j → (l.getD i default).id ≠ (l.getD k default).id) (fun j => k - j) 0 ⟨nZl _, fun j h => absurd h (by omega)⟩ ⟨rfl, rfl, rfl, rfl, tI⟩ rfl ?_
     rintro j ⟨hj, hne⟩
     by_cases hjk : j < k
     · repeat' (first | refine aoQ rfl rfl rfl (fun hg => by exact std0) (by exact rfl) ?_ | refine sqW ?_ | refine rgK (fun K' hK => ?_) | (refine aoN (hK _ _ ?_); clear hK K') | refine cdN rfl tI (fun hc => ?_) (fun hc => ?_) | refine blK ?_ | refine exW ?_ | refine skW ?_ | refine rtW ?_ | refine dK2 (by decide +kernel) (by kernel_rfl) (by decide +kernel) rfl (fun K' hK => ?_) | (refine aqN (hK _ ?_); clear hK K') | refine aqQ rfl rfl (fun hg => by first | exact std0 | exact std1) (by exact rfl) ?_)
       · refine ⟨.inr rfl, Ent.b (Eq.symm (notesOk_dup hlt ((mem_take (fun b : Note => b.id) hk).2 ⟨j, hjk, ?_⟩)))⟩
         simpa using hc
       · exact ⟨j + 1, ⟨by omega, fun i hi => lt_succ_cases hne (by simpa using hc) hi⟩, by omega, ⟨rfl, rfl, rfl, rfl, tI⟩, rfl⟩
       · exfalso; omega
     · repeat' (first | refine aoQ rfl rfl rfl (fun hg => by exact std0) (by exact rfl) ?_ | refine sqW ?_ | refine rgK (fun K' hK => ?_) | (refine aoN (hK _ _ ?_); clear hK K') | refine cdN rfl tI (fun hc => ?_) (fun hc => ?_) | refine blK ?_ | refine exW ?_ | refine skW ?_ | refine rtW ?_ | refine dK2 (by decide +kernel) (by kernel_rfl) (by decide +kernel) rfl (fun K' hK => ?_) | (refine aqN (hK _ ?_); clear hK K') | refine aqQ rfl rfl (fun hg => by first | exact std0 | exact std1) (by exact rfl) ?_)
       all_goals (first | (exfalso; omega) | skip)
       · refine ⟨k + 1, ⟨by omega, fun i hi => lt_succ_cases hall hbo hi, (nodup_succ _ l k hlt).2 ⟨hnd, fun hm => ?_⟩⟩, by omega, ⟨rfl, rfl, rfl, tI⟩, rfl⟩
         obtain ⟨i, hi, e⟩ := (mem_take (fun b : Note => b.id) hk).1 hm
         exact hne i (by omega) e
   · exfalso; omega
 · repeat' (first | refine aoQ rfl rfl rfl (fun hg => by first | exact std0 | exact std1) (by exact rfl) ?_ | refine sqW ?_ | refine rgK (fun K' hK => ?_) | (refine aoN (hK _ _ ?_); clear hK K') | refine cdN rfl tI (fun hc => ?_) (fun hc => ?_) | refine blK ?_ | refine exW ?_ | refine skW ?_ | refine rtW ?_)
   all_goals (first | (exfalso; omega) | skip)
   refine ⟨.inr rfl, Ent.b ?_⟩
   have htk : l.take k = l := zAi (by omega)
   rw [htk] at hnd
   unfold notesOk
   rw [all_yes fun j hj => hall j (by omega), decide_eq_true hnd, h1.1, decide_eq_true h1.2]; rfl
end Go.Proofs.YtdglbdfdkabjfaaGreatDoor
