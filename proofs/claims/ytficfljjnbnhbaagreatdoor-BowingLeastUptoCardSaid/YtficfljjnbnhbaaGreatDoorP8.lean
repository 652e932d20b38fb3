/- Contracts by content: the layers of marks; a mark of the program. No statement is proved here. -/
import Derived.Test.YtficfljjnbnhbaaGreatDoorP7
set_option linter.unusedVariables false
set_option linter.unusedSimpArgs false
namespace Go.Ab
section
variable {P : Program} {n : Nat} {ops : Array Oper} {o : Oper} {env : Env} {σ : Store} {k : Env → Store → Prop}
theorem EStep.insert {κ α : Type} [DecidableEq κ] {ek : κ → Value} {ev : α → AV} {t kt et : TypeId} {m x y : Operand} {l : Nat} {al : List (κ × α)} {key : κ} {v : α} {uk : AV} {s1 b1 : Nat} {z : List Z}
 (K : KeyLaw P kt ek) (hl : LOk P t ⟨.map kt et, s1, b1, z⟩) (ho : o.op = .insert t m x y) (hg : o.guard = none) (hdn : dstOk n o = true) (hm : Rd env m (.map l)) (hσ : σ[l]? = some (.map (encM ek ev al)))
 (hx : Rd env x uk) (hex : exactV uk = some (ek key)) (hy : Rd env y (ev v)) (hk : k (env.putO o.dst .any) (σ.set l (.map (encM ek ev (ins al key v))))) : EStep P n ops o k env σ := by
 have h := EStep.mapUpd (ops := ops) (o := { o with op := .mapUpdate t m x y }) (k := k) K hl rfl hg hdn hm hσ hx hex hy hk
 intro G a w hr
 have h1 := h G a w hr
 have e1 : Region.wanted { o with op := .mapUpdate t m x y } (yielded ops a.tmps) = Region.wanted o (yielded ops a.tmps) := rfl
 have e2 : execOp a.eval { o with op := .mapUpdate t m x y } = execOp a.eval o := by simp only [execOp, ho]
 rw [e1] at h1
 have e3 : Region.wanted o (yielded ops a.tmps) = true := by simp [Region.wanted, hg]
 rw [if_pos e3] at h1 ⊢
 unfold OWP at h1 ⊢
 rw [e2] at h1
 exact h1
end
end Go.Ab
namespace Go.Ab
theorem PRun.lookupV {P : Program} {o : Oper} {env : Env} {σ : Store} {κ α : Type} [DecidableEq κ] {ek : κ → Value} {ev : α → AV} {t kt et : TypeId} {m x : Operand} {al : List (κ × α)} {key : κ} {zv : α} {uk um : AV} {ok : Bool} {s1 b1 : Nat} {z : List Z} {le : LI} {r : Option α} (h : lk al key = r)
 (K : KeyLaw P kt ek) (hl : LOk P t ⟨.map kt et, s1, b1, z⟩) (he : LOk P et le) (hz : zeroAV le = ev zv) (ho : o.op = .lookup t m x ok) (hm : Rd env m um)
 (hum : um = .imap (encM ek ev al) ∨ ∃ l, um = .map l ∧ σ[l]? = some (.map (encM ek ev al)))
 (hx : Rd env x uk) (hex : exactV uk = some (ek key)) : PRun P o env σ (if ok then .tup [ev (r.getD zv), .b r.isSome] else ev (r.getD zv)) := h ▸ PRun.lookup K hl he hz ho hm hum hx hex
end Go.Ab
namespace Go.Proofs.YtficfljjnbnhbaaGreatDoor.Mk
open Go.Ab Go.Jo
attribute [local irreducible] AWP AOps EStep AQ PStep PRun PCall TCall VCall DStep TDies AWD DCall
abbrev ekI (n : Int) : Value := .int .i64 n
def layF : Nat → AV
 | 0 => .agg [.prim .nilFunc, .prim .nilFunc]
 | 1 => .agg [.fn (.func 62) [] [], .fn (.func 100) [] []]
 | 2 => .agg [.fn (.func 101) [] [], .fn (.func 102) [] []]
 | 3 => .agg [.fn (.func 103) [] [], .fn (.func 104) [] []]
 | _ => .agg [.fn (.func 105) [] [], .fn (.func 106) [] []]
theorem lay2_spec (r : Rdr) : PCall Tryz.prog 101 [.agg (encRd r)] (.b (byOk 2 r)) := by
 have v := mrdr_spec ⟨r.part, r.desk, 1⟩
 refine PCall.body Tryz.func101 rfl rfl Tryz.ntmps101 rfl rfl ?_
 repeat' (first | refine aoQ rfl rfl rfl (fun hg => by first | exact std0 | exact pcW (v) rfl rfl nd rfl nds | exact pbD tabOk rfl rfl nds | exact std1) (by exact rfl) ?_ | refine sqW ?_ | refine rgK (fun K' hK => ?_) | (refine aoN (hK _ _ ?_); clear hK K') | refine aoE (bxW rfl rfl rfl rfl rfl tI rfl rfl ?_) | refine rtW ?_)
 refine ⟨.inr rfl, Ent.b ?_⟩
 simp [byOk, isRdr, inR]
 cases r.seat == 0 <;> simp
theorem lay4_spec (r : Rdr) : PCall Tryz.prog 103 [.agg (encRd r)] (.b (byOk 3 r)) := by
 refine PCall.body Tryz.func103 rfl rfl Tryz.ntmps103 rfl rfl ?_
 repeat' (first | refine aoQ rfl rfl rfl (fun hg => by first | exact std0 | exact pcW (mwithin_spec _ _ _) rfl rfl nd rfl nds | exact std1) (by exact rfl) ?_ | refine sqW ?_ | refine rgK (fun K' hK => ?_) | (refine aoN (hK _ _ ?_); clear hK K') | refine aoE (bxW rfl rfl rfl rfl rfl tI rfl rfl ?_) | refine rtW ?_)
 refine ⟨.inr rfl, Ent.b ?_⟩
 simp [byOk]
 cases inR r.part 0 99 <;> simp
theorem lay6_spec (r : Rdr) : PCall Tryz.prog 105 [.agg (encRd r)] (.b (byOk 4 r)) := by
 refine PCall.body Tryz.func105 rfl rfl Tryz.ntmps105 rfl rfl ?_
 repeat' (first | refine aoQ rfl rfl rfl (fun hg => by first | exact std0 | exact pbD tabOk rfl rfl nds | exact PRun.eqN flR rfl rfl nd rfl nd rfl | exact std1) (by exact rfl) ?_ | refine sqW ?_ | refine rgK (fun K' hK => ?_) | (refine aoN (hK _ _ ?_); clear hK K') | refine aoE (bxW rfl rfl rfl rfl rfl tI rfl rfl ?_) | refine rtW ?_)
 refine ⟨.inr rfl, Ent.b ?_⟩
 simp [byOk, Bool.and_assoc]
theorem pureFn {M : Mem} {B : List GB} {f : Fn} {x : Value} (h : VRel M B (.fn f [] []) x) : VRel M [] (.fn f [] []) x := by
 cases h with
 | fn _ _ _ vf vc hvf hvc q1 q2 => exact .fn _ _ _ vf vc hvf hvc (fun i c h => by simp at h) (fun i c h => by simp at h)
theorem pureLay : PureE layF := fun a M B x h => by
 have two : ∀ (u v : AV), (∀ M B x, VRel M B u x → VRel M [] u x) → (∀ M B x, VRel M B v x → VRel M [] v x) → VRel M B (.agg [u, v]) x → VRel M [] (.agg [u, v]) x := fun u v hu hv h => by
  cases h with
  | agg _ c hl hr =>
    refine .agg _ c hl fun i w hi => ?_
    match i, hi with
    | 0, hi => have := hr 0 w hi; simp at hi; subst hi; exact hu _ _ _ this
    | 1, hi => have := hr 1 w hi; simp at hi; subst hi; exact hv _ _ _ this
    | i + 2, hi => simp at hi
 have hp : ∀ v M B x, VRel M B (.prim v) x → VRel M [] (.prim v) x := fun v M B x h => by rw [VRel.prim_eq h]; exact .prim _
 match a, h with
 | 0, h => exact two _ _ (hp _) (hp _) h
 | 1, h => exact two _ _ (fun _ _ _ => pureFn) (fun _ _ _ => pureFn) h
 | 2, h => exact two _ _ (fun _ _ _ => pureFn) (fun _ _ _ => pureFn) h
 | 3, h => exact two _ _ (fun _ _ _ => pureFn) (fun _ _ _ => pureFn) h
 | (_ + 4), h => exact two _ _ (fun _ _ _ => pureFn) (fun _ _ _ => pureFn) h
theorem layers_spec : PCall Tryz.prog 65 [] (.imap (Go.Ab.encM ekI layF [(1, 1), (2, 2), (3, 3), (4, 4)])) := by
 refine PCall.body Tryz.func65 rfl rfl Tryz.ntmps65 rfl rfl ?_
 repeat' (first | refine aoQ rfl rfl rfl (fun hg => by first | exact std0 | exact pbD tabOk rfl rfl nds | exact std1) (by exact rfl) ?_ | refine sqW ?_ | refine rgK (fun K' hK => ?_) | (refine aoN (hK _ _ ?_); clear hK K') | refine aoE (EStep.makeMapW rfl rfl rfl rfl ?_) | refine aoE (EStep.insert (ek := ekI) (ev := layF) (al := []) (v := 1) (keyLaw_int (LOk.of (tabOk.get rfl))) (LOk.of (tabOk.get rfl)) rfl rfl rfl (Rd.w rfl tI) rfl (Rd.w rfl tI) rfl (Rd.w rfl tI) ?_) | refine aoE (EStep.insert (ek := ekI) (ev := layF) (v := 2) (keyLaw_int (LOk.of (tabOk.get rfl))) (LOk.of (tabOk.get rfl)) rfl rfl rfl (Rd.w rfl tI) rfl (Rd.w rfl tI) rfl (Rd.w rfl tI) ?_) | refine aoE (EStep.insert (ek := ekI) (ev := layF) (v := 3) (keyLaw_int (LOk.of (tabOk.get rfl))) (LOk.of (tabOk.get rfl)) rfl rfl rfl (Rd.w rfl tI) rfl (Rd.w rfl tI) rfl (Rd.w rfl tI) ?_) | refine aoE (EStep.insert (ek := ekI) (ev := layF) (v := 4) (keyLaw_int (LOk.of (tabOk.get rfl))) (LOk.of (tabOk.get rfl)) rfl rfl rfl (Rd.w rfl tI) rfl (Rd.w rfl tI) rfl (Rd.w rfl tI) ?_))
 refine AWP.freezeMap (ek := ekI) (ev := layF) (al := [(1, 1), (2, 2), (3, 3), (4, 4)]) (l := 0) rfl pureLay ?_
 refine rtW ⟨.inr rfl, ?_⟩
 exact fun _ _ h => h
theorem inR_2 (v : Int) : inR v 0 2 = (inR v 0 1000 && decide (v ≤ 2)) := by
 unfold inR; rw [zAs]; simp; omega
theorem len200 (t : Bs) : decide (((t.length : Nat) : Int) ≤ 200) = decide (t.length ≤ 200) := by
 rw [zAs]; simp; omega
set_option maxHeartbeats 1600000 in
set_option maxRecDepth 20000 in
theorem mvalid1 (m : Jo.Mark) (h : m.layer = 1) (ht : m.text.length ≤ 9223372036854775807) : PCall Tryz.prog 27 [.agg (encMk m)] (.b (markOk m)) := by
 have hlk : lk [((1 : Int), (1 : Nat)), (2, 2), (3, 3), (4, 4)] m.layer = some 1 := by rw [h]; rfl
 have hf := mrdr_spec m.who
 have hby : byOk m.layer m.who = isRdr m.who := by unfold byOk; rw [if_pos h]
 refine PCall.body Tryz.func27 rfl rfl Tryz.ntmps27 rfl rfl ?_
 repeat' (first | refine aoQ rfl rfl rfl (fun hg => by exact std0) (by exact rfl) ?_ | refine sqW ?_ | refine rgK (fun K' hK => ?_) | (refine aoN (hK _ _ ?_); clear hK K') | refine aoE (bxW rfl rfl rfl rfl rfl tI rfl rfl ?_))
 refine AWP.drawY (fun k => match k with | 0 => [.var (encMk m)] | 1 => [.var (encMk m), .var [.prim .nilFunc, .prim .nilFunc]] | _ => [.var (encMk m), .var [.fn (.func 62) [] [], .fn (.func 100) [] []]]) rfl (by kernel_rfl) (by decide +kernel) rfl (by decide +kernel) (fun K' hK => ?_)
 repeat' (first
  | refine yqQ (a := 0) (b := 0) rfl (by decide +kernel) (by decide +kernel) rfl rfl rfl (fun k h1 h2 hg => by (have hk : k = 0 := (by omega)); (rcases hk with rfl) <;> (first | exact std0 | exact pcW (layers_spec) rfl rfl nd rfl nds | exact PRun.lookupV (ek := ekI) (ev := layF) (zv := 0) hlk (keyLaw_int (LOk.of (tabOk.get rfl))) (LOk.of (tabOk.get rfl)) (LOk.of (tabOk.get rfl)) rfl rfl (Rd.w rfl nd) (Or.inl rfl) (Rd.w rfl nd) rfl | exact std1)) (by exact rfl) ?_
  | refine yqQ (a := 0) (b := 1) rfl (by decide +kernel) (by decide +kernel) rfl rfl rfl (fun k h1 h2 hg => by (have hk : k = 0 ∨ k = 1 := (by omega)); (rcases hk with rfl | rfl) <;> (first | exact std0 | exact pcW (layers_spec) rfl rfl nd rfl nds | exact PRun.lookupV (ek := ekI) (ev := layF) (zv := 0) hlk (keyLaw_int (LOk.of (tabOk.get rfl))) (LOk.of (tabOk.get rfl)) (LOk.of (tabOk.get rfl)) rfl rfl (Rd.w rfl nd) (Or.inl rfl) (Rd.w rfl nd) rfl | exact std1)) (by exact rfl) ?_
  | refine yqQ (a := 1) (b := 1) rfl (by decide +kernel) (by decide +kernel) rfl rfl rfl (fun k h1 h2 hg => by (have hk : k = 1 := (by omega)); (rcases hk with rfl) <;> (first | exact std0 | exact pcW (layers_spec) rfl rfl nd rfl nds | exact PRun.lookupV (ek := ekI) (ev := layF) (zv := 0) hlk (keyLaw_int (LOk.of (tabOk.get rfl))) (LOk.of (tabOk.get rfl)) (LOk.of (tabOk.get rfl)) rfl rfl (Rd.w rfl nd) (Or.inl rfl) (Rd.w rfl nd) rfl | exact std1)) (by exact rfl) ?_
  | refine yqQ (a := 0) (b := 2) rfl (by decide +kernel) (by decide +kernel) rfl rfl rfl (fun k h1 h2 hg => by (have hk : k = 0 ∨ k = 1 ∨ k = 2 := (by omega)); (rcases hk with rfl | rfl | rfl) <;> (first | exact std0 | exact pcW (layers_spec) rfl rfl nd rfl nds | exact PRun.lookupV (ek := ekI) (ev := layF) (zv := 0) hlk (keyLaw_int (LOk.of (tabOk.get rfl))) (LOk.of (tabOk.get rfl)) (LOk.of (tabOk.get rfl)) rfl rfl (Rd.w rfl nd) (Or.inl rfl) (Rd.w rfl nd) rfl | exact std1)) (by exact rfl) ?_
  | refine yqQ (a := 1) (b := 2) rfl (by decide +kernel) (by decide +kernel) rfl rfl rfl (fun k h1 h2 hg => by (have hk : k = 1 ∨ k = 2 := (by omega)); (rcases hk with rfl | rfl) <;> (first | exact std0 | exact pcW (layers_spec) rfl rfl nd rfl nds | exact PRun.lookupV (ek := ekI) (ev := layF) (zv := 0) hlk (keyLaw_int (LOk.of (tabOk.get rfl))) (LOk.of (tabOk.get rfl)) (LOk.of (tabOk.get rfl)) rfl rfl (Rd.w rfl nd) (Or.inl rfl) (Rd.w rfl nd) rfl | exact std1)) (by exact rfl) ?_
  | refine yqQ (a := 2) (b := 2) rfl (by decide +kernel) (by decide +kernel) rfl rfl rfl (fun k h1 h2 hg => by (have hk : k = 2 := (by omega)); (rcases hk with rfl) <;> (first | exact std0 | exact pcW (layers_spec) rfl rfl nd rfl nds | exact PRun.lookupV (ek := ekI) (ev := layF) (zv := 0) hlk (keyLaw_int (LOk.of (tabOk.get rfl))) (LOk.of (tabOk.get rfl)) (LOk.of (tabOk.get rfl)) rfl rfl (Rd.w rfl nd) (Or.inl rfl) (Rd.w rfl nd) rfl | exact std1)) (by exact rfl) ?_)
 refine YQ.e (v := .ptr 1 0) (d := some 3) rfl rfl rfl ?_ ?_
 · intro env' he
   exact alW tabOk rfl rfl rfl rfl rfl rfl ⟨rfl, rfl⟩
 repeat' (first
  | refine yqQ (a := 0) (b := 0) rfl (by decide +kernel) (by decide +kernel) rfl rfl rfl (fun k h1 h2 hg => by (have hk : k = 0 := (by omega)); (rcases hk with rfl) <;> (first | exact std0 | exact std1)) (by exact rfl) ?_
  | refine yqQ (a := 0) (b := 1) rfl (by decide +kernel) (by decide +kernel) rfl rfl rfl (fun k h1 h2 hg => by (have hk : k = 0 ∨ k = 1 := (by omega)); (rcases hk with rfl | rfl) <;> (first | exact std0 | exact std1)) (by exact rfl) ?_
  | refine yqQ (a := 1) (b := 1) rfl (by decide +kernel) (by decide +kernel) rfl rfl rfl (fun k h1 h2 hg => by (have hk : k = 1 := (by omega)); (rcases hk with rfl) <;> (first | exact std0 | exact std1)) (by exact rfl) ?_
  | refine yqQ (a := 0) (b := 2) rfl (by decide +kernel) (by decide +kernel) rfl rfl rfl (fun k h1 h2 hg => by (have hk : k = 0 ∨ k = 1 ∨ k = 2 := (by omega)); (rcases hk with rfl | rfl | rfl) <;> (first | exact std0 | exact std1)) (by exact rfl) ?_
  | refine yqQ (a := 1) (b := 2) rfl (by decide +kernel) (by decide +kernel) rfl rfl rfl (fun k h1 h2 hg => by (have hk : k = 1 ∨ k = 2 := (by omega)); (rcases hk with rfl | rfl) <;> (first | exact std0 | exact std1)) (by exact rfl) ?_
  | refine yqQ (a := 2) (b := 2) rfl (by decide +kernel) (by decide +kernel) rfl rfl rfl (fun k h1 h2 hg => by (have hk : k = 2 := (by omega)); (rcases hk with rfl) <;> (first | exact std0 | exact std1)) (by exact rfl) ?_)
 refine YQ.e (v := .any) (d := none) rfl rfl rfl ?_ ?_
 · intro env' he
   exact stW tabOk rfl rfl ((rdv_congr (he 3 (by decide +kernel))).trans rfl) (by rw [rdn_congr (he 3 (by decide +kernel))]; exact tI) rfl ((rdv_congr (he 12 (by decide +kernel))).trans rfl) (by rw [rdn_congr (he 12 (by decide +kernel))]; exact tI) rfl rfl rfl rfl rfl rfl rfl ⟨rfl, rfl⟩
 repeat' (first
  | refine yqQ (a := 0) (b := 0) rfl (by decide +kernel) (by decide +kernel) rfl rfl rfl (fun k h1 h2 hg => by (have hk : k = 0 := (by omega)); (rcases hk with rfl) <;> (first | exact std0 | exact std1)) (by exact rfl) ?_
  | refine yqQ (a := 0) (b := 1) rfl (by decide +kernel) (by decide +kernel) rfl rfl rfl (fun k h1 h2 hg => by (have hk : k = 0 ∨ k = 1 := (by omega)); (rcases hk with rfl | rfl) <;> (first | exact std0 | exact std1)) (by exact rfl) ?_
  | refine yqQ (a := 1) (b := 1) rfl (by decide +kernel) (by decide +kernel) rfl rfl rfl (fun k h1 h2 hg => by (have hk : k = 1 := (by omega)); (rcases hk with rfl) <;> (first | exact std0 | exact std1)) (by exact rfl) ?_
  | refine yqQ (a := 0) (b := 2) rfl (by decide +kernel) (by decide +kernel) rfl rfl rfl (fun k h1 h2 hg => by (have hk : k = 0 ∨ k = 1 ∨ k = 2 := (by omega)); (rcases hk with rfl | rfl | rfl) <;> (first | exact std0 | exact std1)) (by exact rfl) ?_
  | refine yqQ (a := 1) (b := 2) rfl (by decide +kernel) (by decide +kernel) rfl rfl rfl (fun k h1 h2 hg => by (have hk : k = 1 ∨ k = 2 := (by omega)); (rcases hk with rfl | rfl) <;> (first | exact std0 | exact std1)) (by exact rfl) ?_
  | refine yqQ (a := 2) (b := 2) rfl (by decide +kernel) (by decide +kernel) rfl rfl rfl (fun k h1 h2 hg => by (have hk : k = 2 := (by omega)); (rcases hk with rfl) <;> (first | exact std0 | exact std1)) (by exact rfl) ?_)
 refine YQ.nil (hK _ _ ?_)
 clear hK K'
 refine AWP.keep [(1, .ptr 0 0), (3, .ptr 1 0), (4, .b true)] ⟨rfl, rfl, rfl, tI⟩ ?_
 show AWP _ _ _ _ _ [.var (encMk m), .var [.fn (.func 62) [] [], .fn (.func 100) [] []]]
 clear hlk
 have hsz : (⟨m.text.toArray⟩ : ByteArray).size = m.text.length := by simp [ByteArray.size]
 have hw := contains_spec (runesS ⟨m.text.toArray⟩) (by have := runesN_len ⟨m.text.toArray⟩ (⟨m.text.toArray⟩ : ByteArray).size 0; rw [hsz] at this; unfold runesS; rw [hsz]; omega)
 repeat' (first | refine aoQ rfl rfl rfl (fun hg => by first | exact std0 | exact pcW (hf) rfl rfl nd rfl nds | exact pcW (mid_spec _) rfl rfl nd rfl nds | exact pcW (mwithin_spec _ _ _) rfl rfl nd rfl nds | exact PRun.strRunes tabOk rfl rfl nd rfl rfl rfl (by rw [hsz]; first | (have h9 : ((_ && decide ((((⟨m.text.toArray⟩ : ByteArray).size : Nat) : Int) ≤ 200)) == true) = true := hg; rw [hsz] at h9; simp at h9; omega) | (have h9 : (_ && decide ((((⟨m.text.toArray⟩ : ByteArray).size : Nat) : Int) ≤ 200)) = true := hg; rw [hsz] at h9; simp at h9; omega)) | exact pcW (hw) rfl rfl nd rfl nds | exact std1) (by exact rfl) ?_ | refine sqW ?_ | refine rgK (fun K' hK => ?_) | (refine aoN (hK _ _ ?_); clear hK K') | refine cdN rfl tI (fun hc => ?_) (fun hc => ?_) | refine skW ?_ | refine rtW ?_)
 · refine ⟨.inr rfl, Ent.b ?_⟩
   unfold markOk
   rw [hby]
   clear hf hw
   (revert hc; generalize (textOk m.text) = z0; generalize (isRdr m.who) = z1; generalize (isId m.id) = z2; generalize (isId m.version) = z3; generalize (isId m.note) = z4; generalize (inR m.kind 1 5) = z5; generalize (inR m.value 0 1000) = z6; generalize (m.kind != 1 || decide (m.value ≤ 2)) = z7; revert z0 z1 z2 z3 z4 z5 z6 z7; decide)
 · have hk : m.kind = 1 := eq_of_beq hc
   rename_i hg
   refine ⟨.inr rfl, Ent.b ?_⟩
   unfold markOk
   rw [hby, textOk_runes]
   refine Eq.trans (b := ((inR m.value 0 2 && decide ((((⟨m.text.toArray⟩ : ByteArray).size : Nat) : Int) ≤ 200)) && !(runesS ⟨m.text.toArray⟩).any badR)) rfl ?_
   rw [hsz, inR_2, len200, hk]
   rw [hk] at hg
   clear hf hw hc
   show _ = ((decide (m.text.length ≤ 200) && !(runesS ⟨m.text.toArray⟩).any badR) && isRdr m.who && isId m.id && isId m.version && isId m.note && inR 1 1 5 && inR m.value 0 1000 && (false || decide (m.value ≤ 2)))
   (revert hg; generalize ((runesS ⟨m.text.toArray⟩).any badR) = z0; generalize (decide (m.text.length ≤ 200)) = z1; generalize (isRdr m.who) = z2; generalize (isId m.id) = z3; generalize (isId m.version) = z4; generalize (isId m.note) = z5; generalize (inR 1 1 5) = z6; generalize (inR m.value 0 1000) = z7; generalize (decide (m.value ≤ 2)) = z8; revert z0 z1 z2 z3 z4 z5 z6 z7 z8; decide)
 · rename_i hg
   refine ⟨.inr rfl, Ent.b ?_⟩
   unfold markOk
   rw [hby, textOk_runes]
   refine Eq.trans (b := ((inR m.value 0 1000 && decide ((((⟨m.text.toArray⟩ : ByteArray).size : Nat) : Int) ≤ 200)) && !(runesS ⟨m.text.toArray⟩).any badR)) rfl ?_
   have hk : (m.kind != 1) = true := by unfold bne; rw [hc]; rfl
   rw [hsz, len200, hk]
   clear hf hw hc
   show _ = ((decide (m.text.length ≤ 200) && !(runesS ⟨m.text.toArray⟩).any badR) && isRdr m.who && isId m.id && isId m.version && isId m.note && inR m.kind 1 5 && inR m.value 0 1000 && (true || decide (m.value ≤ 2)))
   (revert hg; generalize ((runesS ⟨m.text.toArray⟩).any badR) = z0; generalize (decide (m.text.length ≤ 200)) = z1; generalize (isRdr m.who) = z2; generalize (isId m.id) = z3; generalize (isId m.version) = z4; generalize (isId m.note) = z5; generalize (inR m.kind 1 5) = z6; generalize (inR m.value 0 1000) = z7; generalize (decide (m.value ≤ 2)) = z8; revert z0 z1 z2 z3 z4 z5 z6 z7 z8; decide)
set_option maxHeartbeats 1600000 in
set_option maxRecDepth 20000 in
theorem mvalid2 (m : Jo.Mark) (h : m.layer = 2) (ht : m.text.length ≤ 9223372036854775807) : PCall Tryz.prog 27 [.agg (encMk m)] (.b (markOk m)) := by
 have hlk : lk [((1 : Int), (1 : Nat)), (2, 2), (3, 3), (4, 4)] m.layer = some 2 := by rw [h]; rfl
 have hf := lay2_spec m.who
 have hby : byOk m.layer m.who = byOk 2 m.who := by rw [h]
 refine PCall.body Tryz.func27 rfl rfl Tryz.ntmps27 rfl rfl ?_
 repeat' (first | refine aoQ rfl rfl rfl (fun hg => by exact std0) (by exact rfl) ?_ | refine sqW ?_ | refine rgK (fun K' hK => ?_) | (refine aoN (hK _ _ ?_); clear hK K') | refine aoE (bxW rfl rfl rfl rfl rfl tI rfl rfl ?_))
 refine AWP.drawY (fun k => match k with | 0 => [.var (encMk m)] | 1 => [.var (encMk m), .var [.prim .nilFunc, .prim .nilFunc]] | _ => [.var (encMk m), .var [.fn (.func 101) [] [], .fn (.func 102) [] []]]) rfl (by kernel_rfl) (by decide +kernel) rfl (by decide +kernel) (fun K' hK => ?_)
 repeat' (first
  | refine yqQ (a := 0) (b := 0) rfl (by decide +kernel) (by decide +kernel) rfl rfl rfl (fun k h1 h2 hg => by (have hk : k = 0 := (by omega)); (rcases hk with rfl) <;> (first | exact std0 | exact pcW (layers_spec) rfl rfl nd rfl nds | exact PRun.lookupV (ek := ekI) (ev := layF) (zv := 0) hlk (keyLaw_int (LOk.of (tabOk.get rfl))) (LOk.of (tabOk.get rfl)) (LOk.of (tabOk.get rfl)) rfl rfl (Rd.w rfl nd) (Or.inl rfl) (Rd.w rfl nd) rfl | exact std1)) (by exact rfl) ?_
  | refine yqQ (a := 0) (b := 1) rfl (by decide +kernel) (by decide +kernel) rfl rfl rfl (fun k h1 h2 hg => by (have hk : k = 0 ∨ k = 1 := (by omega)); (rcases hk with rfl | rfl) <;> (first | exact std0 | exact pcW (layers_spec) rfl rfl nd rfl nds | exact PRun.lookupV (ek := ekI) (ev := layF) (zv := 0) hlk (keyLaw_int (LOk.of (tabOk.get rfl))) (LOk.of (tabOk.get rfl)) (LOk.of (tabOk.get rfl)) rfl rfl (Rd.w rfl nd) (Or.inl rfl) (Rd.w rfl nd) rfl | exact std1)) (by exact rfl) ?_
  | refine yqQ (a := 1) (b := 1) rfl (by decide +kernel) (by decide +kernel) rfl rfl rfl (fun k h1 h2 hg => by (have hk : k = 1 := (by omega)); (rcases hk with rfl) <;> (first | exact std0 | exact pcW (layers_spec) rfl rfl nd rfl nds | exact PRun.lookupV (ek := ekI) (ev := layF) (zv := 0) hlk (keyLaw_int (LOk.of (tabOk.get rfl))) (LOk.of (tabOk.get rfl)) (LOk.of (tabOk.get rfl)) rfl rfl (Rd.w rfl nd) (Or.inl rfl) (Rd.w rfl nd) rfl | exact std1)) (by exact rfl) ?_
  | refine yqQ (a := 0) (b := 2) rfl (by decide +kernel) (by decide +kernel) rfl rfl rfl (fun k h1 h2 hg => by (have hk : k = 0 ∨ k = 1 ∨ k = 2 := (by omega)); (rcases hk with rfl | rfl | rfl) <;> (first | exact std0 | exact pcW (layers_spec) rfl rfl nd rfl nds | exact PRun.lookupV (ek := ekI) (ev := layF) (zv := 0) hlk (keyLaw_int (LOk.of (tabOk.get rfl))) (LOk.of (tabOk.get rfl)) (LOk.of (tabOk.get rfl)) rfl rfl (Rd.w rfl nd) (Or.inl rfl) (Rd.w rfl nd) rfl | exact std1)) (by exact rfl) ?_
  | refine yqQ (a := 1) (b := 2) rfl (by decide +kernel) (by decide +kernel) rfl rfl rfl (fun k h1 h2 hg => by (have hk : k = 1 ∨ k = 2 := (by omega)); (rcases hk with rfl | rfl) <;> (first | exact std0 | exact pcW (layers_spec) rfl rfl nd rfl nds | exact PRun.lookupV (ek := ekI) (ev := layF) (zv := 0) hlk (keyLaw_int (LOk.of (tabOk.get rfl))) (LOk.of (tabOk.get rfl)) (LOk.of (tabOk.get rfl)) rfl rfl (Rd.w rfl nd) (Or.inl rfl) (Rd.w rfl nd) rfl | exact std1)) (by exact rfl) ?_
  | refine yqQ (a := 2) (b := 2) rfl (by decide +kernel) (by decide +kernel) rfl rfl rfl (fun k h1 h2 hg => by (have hk : k = 2 := (by omega)); (rcases hk with rfl) <;> (first | exact std0 | exact pcW (layers_spec) rfl rfl nd rfl nds | exact PRun.lookupV (ek := ekI) (ev := layF) (zv := 0) hlk (keyLaw_int (LOk.of (tabOk.get rfl))) (LOk.of (tabOk.get rfl)) (LOk.of (tabOk.get rfl)) rfl rfl (Rd.w rfl nd) (Or.inl rfl) (Rd.w rfl nd) rfl | exact std1)) (by exact rfl) ?_)
 refine YQ.e (v := .ptr 1 0) (d := some 3) rfl rfl rfl ?_ ?_
 · intro env' he
   exact alW tabOk rfl rfl rfl rfl rfl rfl ⟨rfl, rfl⟩
 repeat' (first
  | refine yqQ (a := 0) (b := 0) rfl (by decide +kernel) (by decide +kernel) rfl rfl rfl (fun k h1 h2 hg => by (have hk : k = 0 := (by omega)); (rcases hk with rfl) <;> (first | exact std0 | exact std1)) (by exact rfl) ?_
  | refine yqQ (a := 0) (b := 1) rfl (by decide +kernel) (by decide +kernel) rfl rfl rfl (fun k h1 h2 hg => by (have hk : k = 0 ∨ k = 1 := (by omega)); (rcases hk with rfl | rfl) <;> (first | exact std0 | exact std1)) (by exact rfl) ?_
  | refine yqQ (a := 1) (b := 1) rfl (by decide +kernel) (by decide +kernel) rfl rfl rfl (fun k h1 h2 hg => by (have hk : k = 1 := (by omega)); (rcases hk with rfl) <;> (first | exact std0 | exact std1)) (by exact rfl) ?_
  | refine yqQ (a := 0) (b := 2) rfl (by decide +kernel) (by decide +kernel) rfl rfl rfl (fun k h1 h2 hg => by (have hk : k = 0 ∨ k = 1 ∨ k = 2 := (by omega)); (rcases hk with rfl | rfl | rfl) <;> (first | exact std0 | exact std1)) (by exact rfl) ?_
  | refine yqQ (a := 1) (b := 2) rfl (by decide +kernel) (by decide +kernel) rfl rfl rfl (fun k h1 h2 hg => by (have hk : k = 1 ∨ k = 2 := (by omega)); (rcases hk with rfl | rfl) <;> (first | exact std0 | exact std1)) (by exact rfl) ?_
  | refine yqQ (a := 2) (b := 2) rfl (by decide +kernel) (by decide +kernel) rfl rfl rfl (fun k h1 h2 hg => by (have hk : k = 2 := (by omega)); (rcases hk with rfl) <;> (first | exact std0 | exact std1)) (by exact rfl) ?_)
 refine YQ.e (v := .any) (d := none) rfl rfl rfl ?_ ?_
 · intro env' he
   exact stW tabOk rfl rfl ((rdv_congr (he 3 (by decide +kernel))).trans rfl) (by rw [rdn_congr (he 3 (by decide +kernel))]; exact tI) rfl ((rdv_congr (he 12 (by decide +kernel))).trans rfl) (by rw [rdn_congr (he 12 (by decide +kernel))]; exact tI) rfl rfl rfl rfl rfl rfl rfl ⟨rfl, rfl⟩
 repeat' (first
  | refine yqQ (a := 0) (b := 0) rfl (by decide +kernel) (by decide +kernel) rfl rfl rfl (fun k h1 h2 hg => by (have hk : k = 0 := (by omega)); (rcases hk with rfl) <;> (first | exact std0 | exact std1)) (by exact rfl) ?_
  | refine yqQ (a := 0) (b := 1) rfl (by decide +kernel) (by decide +kernel) rfl rfl rfl (fun k h1 h2 hg => by (have hk : k = 0 ∨ k = 1 := (by omega)); (rcases hk with rfl | rfl) <;> (first | exact std0 | exact std1)) (by exact rfl) ?_
  | refine yqQ (a := 1) (b := 1) rfl (by decide +kernel) (by decide +kernel) rfl rfl rfl (fun k h1 h2 hg => by (have hk : k = 1 := (by omega)); (rcases hk with rfl) <;> (first | exact std0 | exact std1)) (by exact rfl) ?_
  | refine yqQ (a := 0) (b := 2) rfl (by decide +kernel) (by decide +kernel) rfl rfl rfl (fun k h1 h2 hg => by (have hk : k = 0 ∨ k = 1 ∨ k = 2 := (by omega)); (rcases hk with rfl | rfl | rfl) <;> (first | exact std0 | exact std1)) (by exact rfl) ?_
  | refine yqQ (a := 1) (b := 2) rfl (by decide +kernel) (by decide +kernel) rfl rfl rfl (fun k h1 h2 hg => by (have hk : k = 1 ∨ k = 2 := (by omega)); (rcases hk with rfl | rfl) <;> (first | exact std0 | exact std1)) (by exact rfl) ?_
  | refine yqQ (a := 2) (b := 2) rfl (by decide +kernel) (by decide +kernel) rfl rfl rfl (fun k h1 h2 hg => by (have hk : k = 2 := (by omega)); (rcases hk with rfl) <;> (first | exact std0 | exact std1)) (by exact rfl) ?_)
 refine YQ.nil (hK _ _ ?_)
 clear hK K'
 refine AWP.keep [(1, .ptr 0 0), (3, .ptr 1 0), (4, .b true)] ⟨rfl, rfl, rfl, tI⟩ ?_
 show AWP _ _ _ _ _ [.var (encMk m), .var [.fn (.func 101) [] [], .fn (.func 102) [] []]]
 clear hlk
 have hsz : (⟨m.text.toArray⟩ : ByteArray).size = m.text.length := by simp [ByteArray.size]
 have hw := contains_spec (runesS ⟨m.text.toArray⟩) (by have := runesN_len ⟨m.text.toArray⟩ (⟨m.text.toArray⟩ : ByteArray).size 0; rw [hsz] at this; unfold runesS; rw [hsz]; omega)
 repeat' (first | refine aoQ rfl rfl rfl (fun hg => by first | exact std0 | exact pcW (hf) rfl rfl nd rfl nds | exact pcW (mid_spec _) rfl rfl nd rfl nds | exact pcW (mwithin_spec _ _ _) rfl rfl nd rfl nds | exact PRun.strRunes tabOk rfl rfl nd rfl rfl rfl (by rw [hsz]; first | (have h9 : ((_ && decide ((((⟨m.text.toArray⟩ : ByteArray).size : Nat) : Int) ≤ 200)) == true) = true := hg; rw [hsz] at h9; simp at h9; omega) | (have h9 : (_ && decide ((((⟨m.text.toArray⟩ : ByteArray).size : Nat) : Int) ≤ 200)) = true := hg; rw [hsz] at h9; simp at h9; omega)) | exact pcW (hw) rfl rfl nd rfl nds | exact std1) (by exact rfl) ?_ | refine sqW ?_ | refine rgK (fun K' hK => ?_) | (refine aoN (hK _ _ ?_); clear hK K') | refine cdN rfl tI (fun hc => ?_) (fun hc => ?_) | refine skW ?_ | refine rtW ?_)
 · refine ⟨.inr rfl, Ent.b ?_⟩
   unfold markOk
   rw [hby]
   clear hf hw
   (revert hc; generalize (textOk m.text) = z0; generalize (byOk 2 m.who) = z1; generalize (isId m.id) = z2; generalize (isId m.version) = z3; generalize (isId m.note) = z4; generalize (inR m.kind 1 5) = z5; generalize (inR m.value 0 1000) = z6; generalize (m.kind != 1 || decide (m.value ≤ 2)) = z7; revert z0 z1 z2 z3 z4 z5 z6 z7; decide)
 · have hk : m.kind = 1 := eq_of_beq hc
   rename_i hg
   refine ⟨.inr rfl, Ent.b ?_⟩
   unfold markOk
   rw [hby, textOk_runes]
   refine Eq.trans (b := ((inR m.value 0 2 && decide ((((⟨m.text.toArray⟩ : ByteArray).size : Nat) : Int) ≤ 200)) && !(runesS ⟨m.text.toArray⟩).any badR)) rfl ?_
   rw [hsz, inR_2, len200, hk]
   rw [hk] at hg
   clear hf hw hc
   show _ = ((decide (m.text.length ≤ 200) && !(runesS ⟨m.text.toArray⟩).any badR) && byOk 2 m.who && isId m.id && isId m.version && isId m.note && inR 1 1 5 && inR m.value 0 1000 && (false || decide (m.value ≤ 2)))
   (revert hg; generalize ((runesS ⟨m.text.toArray⟩).any badR) = z0; generalize (decide (m.text.length ≤ 200)) = z1; generalize (byOk 2 m.who) = z2; generalize (isId m.id) = z3; generalize (isId m.version) = z4; generalize (isId m.note) = z5; generalize (inR 1 1 5) = z6; generalize (inR m.value 0 1000) = z7; generalize (decide (m.value ≤ 2)) = z8; revert z0 z1 z2 z3 z4 z5 z6 z7 z8; decide)
 · rename_i hg
   refine ⟨.inr rfl, Ent.b ?_⟩
   unfold markOk
   rw [hby, textOk_runes]
   refine Eq.trans (b := ((inR m.value 0 1000 && decide ((((⟨m.text.toArray⟩ : ByteArray).size : Nat) : Int) ≤ 200)) && !(runesS ⟨m.text.toArray⟩).any badR)) rfl ?_
   have hk : (m.kind != 1) = true := by unfold bne; rw [hc]; rfl
   rw [hsz, len200, hk]
   clear hf hw hc
   show _ = ((decide (m.text.length ≤ 200) && !(runesS ⟨m.text.toArray⟩).any badR) && byOk 2 m.who && isId m.id && isId m.version && isId m.note && inR m.kind 1 5 && inR m.value 0 1000 && (true || decide (m.value ≤ 2)))
   (revert hg; generalize ((runesS ⟨m.text.toArray⟩).any badR) = z0; generalize (decide (m.text.length ≤ 200)) = z1; generalize (byOk 2 m.who) = z2; generalize (isId m.id) = z3; generalize (isId m.version) = z4; generalize (isId m.note) = z5; generalize (inR m.kind 1 5) = z6; generalize (inR m.value 0 1000) = z7; generalize (decide (m.value ≤ 2)) = z8; revert z0 z1 z2 z3 z4 z5 z6 z7 z8; decide)
set_option maxHeartbeats 1600000 in
set_option maxRecDepth 20000 in
theorem mvalid3 (m : Jo.Mark) (h : m.layer = 3) (ht : m.text.length ≤ 9223372036854775807) : PCall Tryz.prog 27 [.agg (encMk m)] (.b (markOk m)) := by
 have hlk : lk [((1 : Int), (1 : Nat)), (2, 2), (3, 3), (4, 4)] m.layer = some 3 := by rw [h]; rfl
 have hf := lay4_spec m.who
 have hby : byOk m.layer m.who = byOk 3 m.who := by rw [h]
 refine PCall.body Tryz.func27 rfl rfl Tryz.ntmps27 rfl rfl ?_
 repeat' (first | refine aoQ rfl rfl rfl (fun hg => by exact std0) (by exact rfl) ?_ | refine sqW ?_ | refine rgK (fun K' hK => ?_) | (refine aoN (hK _ _ ?_); clear hK K') | refine aoE (bxW rfl rfl rfl rfl rfl tI rfl rfl ?_))
 refine AWP.drawY (fun k => match k with | 0 => [.var (encMk m)] | 1 => [.var (encMk m), .var [.prim .nilFunc, .prim .nilFunc]] | _ => [.var (encMk m), .var [.fn (.func 103) [] [], .fn (.func 104) [] []]]) rfl (by kernel_rfl) (by decide +kernel) rfl (by decide +kernel) (fun K' hK => ?_)
 repeat' (first
  | refine yqQ (a := 0) (b := 0) rfl (by decide +kernel) (by decide +kernel) rfl rfl rfl (fun k h1 h2 hg => by (have hk : k = 0 := (by omega)); (rcases hk with rfl) <;> (first | exact std0 | exact pcW (layers_spec) rfl rfl nd rfl nds | exact PRun.lookupV (ek := ekI) (ev := layF) (zv := 0) hlk (keyLaw_int (LOk.of (tabOk.get rfl))) (LOk.of (tabOk.get rfl)) (LOk.of (tabOk.get rfl)) rfl rfl (Rd.w rfl nd) (Or.inl rfl) (Rd.w rfl nd) rfl | exact std1)) (by exact rfl) ?_
  | refine yqQ (a := 0) (b := 1) rfl (by decide +kernel) (by decide +kernel) rfl rfl rfl (fun k h1 h2 hg => by (have hk : k = 0 ∨ k = 1 := (by omega)); (rcases hk with rfl | rfl) <;> (first | exact std0 | exact pcW (layers_spec) rfl rfl nd rfl nds | exact PRun.lookupV (ek := ekI) (ev := layF) (zv := 0) hlk (keyLaw_int (LOk.of (tabOk.get rfl))) (LOk.of (tabOk.get rfl)) (LOk.of (tabOk.get rfl)) rfl rfl (Rd.w rfl nd) (Or.inl rfl) (Rd.w rfl nd) rfl | exact std1)) (by exact rfl) ?_
  | refine yqQ (a := 1) (b := 1) rfl (by decide +kernel) (by decide +kernel) rfl rfl rfl (fun k h1 h2 hg => by (have hk : k = 1 := (by omega)); (rcases hk with rfl) <;> (first | exact std0 | exact pcW (layers_spec) rfl rfl nd rfl nds | exact PRun.lookupV (ek := ekI) (ev := layF) (zv := 0) hlk (keyLaw_int (LOk.of (tabOk.get rfl))) (LOk.of (tabOk.get rfl)) (LOk.of (tabOk.get rfl)) rfl rfl (Rd.w rfl nd) (Or.inl rfl) (Rd.w rfl nd) rfl | exact std1)) (by exact rfl) ?_
  | refine yqQ (a := 0) (b := 2) rfl (by decide +kernel) (by decide +kernel) rfl rfl rfl (fun k h1 h2 hg => by (have hk : k = 0 ∨ k = 1 ∨ k = 2 := (by omega)); (rcases hk with rfl | rfl | rfl) <;> (first | exact std0 | exact pcW (layers_spec) rfl rfl nd rfl nds | exact PRun.lookupV (ek := ekI) (ev := layF) (zv := 0) hlk (keyLaw_int (LOk.of (tabOk.get rfl))) (LOk.of (tabOk.get rfl)) (LOk.of (tabOk.get rfl)) rfl rfl (Rd.w rfl nd) (Or.inl rfl) (Rd.w rfl nd) rfl | exact std1)) (by exact rfl) ?_
  | refine yqQ (a := 1) (b := 2) rfl (by decide +kernel) (by decide +kernel) rfl rfl rfl (fun k h1 h2 hg => by (have hk : k = 1 ∨ k = 2 := (by omega)); (rcases hk with rfl | rfl) <;> (first | exact std0 | exact pcW (layers_spec) rfl rfl nd rfl nds | exact PRun.lookupV (ek := ekI) (ev := layF) (zv := 0) hlk (keyLaw_int (LOk.of (tabOk.get rfl))) (LOk.of (tabOk.get rfl)) (LOk.of (tabOk.get rfl)) rfl rfl (Rd.w rfl nd) (Or.inl rfl) (Rd.w rfl nd) rfl | exact std1)) (by exact rfl) ?_
  | refine yqQ (a := 2) (b := 2) rfl (by decide +kernel) (by decide +kernel) rfl rfl rfl (fun k h1 h2 hg => by (have hk : k = 2 := (by omega)); (rcases hk with rfl) <;> (first | exact std0 | exact pcW (layers_spec) rfl rfl nd rfl nds | exact PRun.lookupV (ek := ekI) (ev := layF) (zv := 0) hlk (keyLaw_int (LOk.of (tabOk.get rfl))) (LOk.of (tabOk.get rfl)) (LOk.of (tabOk.get rfl)) rfl rfl (Rd.w rfl nd) (Or.inl rfl) (Rd.w rfl nd) rfl | exact std1)) (by exact rfl) ?_)
 refine YQ.e (v := .ptr 1 0) (d := some 3) rfl rfl rfl ?_ ?_
 · intro env' he
   exact alW tabOk rfl rfl rfl rfl rfl rfl ⟨rfl, rfl⟩
 repeat' (first
  | refine yqQ (a := 0) (b := 0) rfl (by decide +kernel) (by decide +kernel) rfl rfl rfl (fun k h1 h2 hg => by (have hk : k = 0 := (by omega)); (rcases hk with rfl) <;> (first | exact std0 | exact std1)) (by exact rfl) ?_
  | refine yqQ (a := 0) (b := 1) rfl (by decide +kernel) (by decide +kernel) rfl rfl rfl (fun k h1 h2 hg => by (have hk : k = 0 ∨ k = 1 := (by omega)); (rcases hk with rfl | rfl) <;> (first | exact std0 | exact std1)) (by exact rfl) ?_
  | refine yqQ (a := 1) (b := 1) rfl (by decide +kernel) (by decide +kernel) rfl rfl rfl (fun k h1 h2 hg => by (have hk : k = 1 := (by omega)); (rcases hk with rfl) <;> (first | exact std0 | exact std1)) (by exact rfl) ?_
  | refine yqQ (a := 0) (b := 2) rfl (by decide +kernel) (by decide +kernel) rfl rfl rfl (fun k h1 h2 hg => by (have hk : k = 0 ∨ k = 1 ∨ k = 2 := (by omega)); (rcases hk with rfl | rfl | rfl) <;> (first | exact std0 | exact std1)) (by exact rfl) ?_
  | refine yqQ (a := 1) (b := 2) rfl (by decide +kernel) (by decide +kernel) rfl rfl rfl (fun k h1 h2 hg => by (have hk : k = 1 ∨ k = 2 := (by omega)); (rcases hk with rfl | rfl) <;> (first | exact std0 | exact std1)) (by exact rfl) ?_
  | refine yqQ (a := 2) (b := 2) rfl (by decide +kernel) (by decide +kernel) rfl rfl rfl (fun k h1 h2 hg => by (have hk : k = 2 := (by omega)); (rcases hk with rfl) <;> (first | exact std0 | exact std1)) (by exact rfl) ?_)
 refine YQ.e (v := .any) (d := none) rfl rfl rfl ?_ ?_
 · intro env' he
   exact stW tabOk rfl rfl ((rdv_congr (he 3 (by decide +kernel))).trans rfl) (by rw [rdn_congr (he 3 (by decide +kernel))]; exact tI) rfl ((rdv_congr (he 12 (by decide +kernel))).trans rfl) (by rw [rdn_congr (he 12 (by decide +kernel))]; exact tI) rfl rfl rfl rfl rfl rfl rfl ⟨rfl, rfl⟩
 repeat' (first
  | refine yqQ (a := 0) (b := 0) rfl (by decide +kernel) (by decide +kernel) rfl rfl rfl (fun k h1 h2 hg => by (have hk : k = 0 := (by omega)); (rcases hk with rfl) <;> (first | exact std0 | exact std1)) (by exact rfl) ?_
  | refine yqQ (a := 0) (b := 1) rfl (by decide +kernel) (by decide +kernel) rfl rfl rfl (fun k h1 h2 hg => by (have hk : k = 0 ∨ k = 1 := (by omega)); (rcases hk with rfl | rfl) <;> (first | exact std0 | exact std1)) (by exact rfl) ?_
  | refine yqQ (a := 1) (b := 1) rfl (by decide +kernel) (by decide +kernel) rfl rfl rfl (fun k h1 h2 hg => by (have hk : k = 1 := (by omega)); (rcases hk with rfl) <;> (first | exact std0 | exact std1)) (by exact rfl) ?_
  | refine yqQ (a := 0) (b := 2) rfl (by decide +kernel) (by decide +kernel) rfl rfl rfl (fun k h1 h2 hg => by (have hk : k = 0 ∨ k = 1 ∨ k = 2 := (by omega)); (rcases hk with rfl | rfl | rfl) <;> (first | exact std0 | exact std1)) (by exact rfl) ?_
  | refine yqQ (a := 1) (b := 2) rfl (by decide +kernel) (by decide +kernel) rfl rfl rfl (fun k h1 h2 hg => by (have hk : k = 1 ∨ k = 2 := (by omega)); (rcases hk with rfl | rfl) <;> (first | exact std0 | exact std1)) (by exact rfl) ?_
  | refine yqQ (a := 2) (b := 2) rfl (by decide +kernel) (by decide +kernel) rfl rfl rfl (fun k h1 h2 hg => by (have hk : k = 2 := (by omega)); (rcases hk with rfl) <;> (first | exact std0 | exact std1)) (by exact rfl) ?_)
 refine YQ.nil (hK _ _ ?_)
 clear hK K'
 refine AWP.keep [(1, .ptr 0 0), (3, .ptr 1 0), (4, .b true)] ⟨rfl, rfl, rfl, tI⟩ ?_
 show AWP _ _ _ _ _ [.var (encMk m), .var [.fn (.func 103) [] [], .fn (.func 104) [] []]]
 clear hlk
 have hsz : (⟨m.text.toArray⟩ : ByteArray).size = m.text.length := by simp [ByteArray.size]
 have hw := contains_spec (runesS ⟨m.text.toArray⟩) (by have := runesN_len ⟨m.text.toArray⟩ (⟨m.text.toArray⟩ : ByteArray).size 0; rw [hsz] at this; unfold runesS; rw [hsz]; omega)
 repeat' (first | refine aoQ rfl rfl rfl (fun hg => by first | exact std0 | exact pcW (hf) rfl rfl nd rfl nds | exact pcW (mid_spec _) rfl rfl nd rfl nds | exact pcW (mwithin_spec _ _ _) rfl rfl nd rfl nds | exact PRun.strRunes tabOk rfl rfl nd rfl rfl rfl (by rw [hsz]; first | (have h9 : ((_ && decide ((((⟨m.text.toArray⟩ : ByteArray).size : Nat) : Int) ≤ 200)) == true) = true := hg; rw [hsz] at h9; simp at h9; omega) | (have h9 : (_ && decide ((((⟨m.text.toArray⟩ : ByteArray).size : Nat) : Int) ≤ 200)) = true := hg; rw [hsz] at h9; simp at h9; omega)) | exact pcW (hw) rfl rfl nd rfl nds | exact std1) (by exact rfl) ?_ | refine sqW ?_ | refine rgK (fun K' hK => ?_) | (refine aoN (hK _ _ ?_); clear hK K') | refine cdN rfl tI (fun hc => ?_) (fun hc => ?_) | refine skW ?_ | refine rtW ?_)
 · refine ⟨.inr rfl, Ent.b ?_⟩
   unfold markOk
   rw [hby]
   clear hf hw
   (revert hc; generalize (textOk m.text) = z0; generalize (byOk 3 m.who) = z1; generalize (isId m.id) = z2; generalize (isId m.version) = z3; generalize (isId m.note) = z4; generalize (inR m.kind 1 5) = z5; generalize (inR m.value 0 1000) = z6; generalize (m.kind != 1 || decide (m.value ≤ 2)) = z7; revert z0 z1 z2 z3 z4 z5 z6 z7; decide)
 · have hk : m.kind = 1 := eq_of_beq hc
   rename_i hg
   refine ⟨.inr rfl, Ent.b ?_⟩
   unfold markOk
   rw [hby, textOk_runes]
   refine Eq.trans (b := ((inR m.value 0 2 && decide ((((⟨m.text.toArray⟩ : ByteArray).size : Nat) : Int) ≤ 200)) && !(runesS ⟨m.text.toArray⟩).any badR)) rfl ?_
   rw [hsz, inR_2, len200, hk]
   rw [hk] at hg
   clear hf hw hc
   show _ = ((decide (m.text.length ≤ 200) && !(runesS ⟨m.text.toArray⟩).any badR) && byOk 3 m.who && isId m.id && isId m.version && isId m.note && inR 1 1 5 && inR m.value 0 1000 && (false || decide (m.value ≤ 2)))
   (revert hg; generalize ((runesS ⟨m.text.toArray⟩).any badR) = z0; generalize (decide (m.text.length ≤ 200)) = z1; generalize (byOk 3 m.who) = z2; generalize (isId m.id) = z3; generalize (isId m.version) = z4; generalize (isId m.note) = z5; generalize (inR 1 1 5) = z6; generalize (inR m.value 0 1000) = z7; generalize (decide (m.value ≤ 2)) = z8; revert z0 z1 z2 z3 z4 z5 z6 z7 z8; decide)
 · rename_i hg
   refine ⟨.inr rfl, Ent.b ?_⟩
   unfold markOk
   rw [hby, textOk_runes]
   refine Eq.trans (b := ((inR m.value 0 1000 && decide ((((⟨m.text.toArray⟩ : ByteArray).size : Nat) : Int) ≤ 200)) && !(runesS ⟨m.text.toArray⟩).any badR)) rfl ?_
   have hk : (m.kind != 1) = true := by unfold bne; rw [hc]; rfl
   rw [hsz, len200, hk]
   clear hf hw hc
   show _ = ((decide (m.text.length ≤ 200) && !(runesS ⟨m.text.toArray⟩).any badR) && byOk 3 m.who && isId m.id && isId m.version && isId m.note && inR m.kind 1 5 && inR m.value 0 1000 && (true || decide (m.value ≤ 2)))
   (revert hg; generalize ((runesS ⟨m.text.toArray⟩).any badR) = z0; generalize (decide (m.text.length ≤ 200)) = z1; generalize (byOk 3 m.who) = z2; generalize (isId m.id) = z3; generalize (isId m.version) = z4; generalize (isId m.note) = z5; generalize (inR m.kind 1 5) = z6; generalize (inR m.value 0 1000) = z7; generalize (decide (m.value ≤ 2)) = z8; revert z0 z1 z2 z3 z4 z5 z6 z7 z8; decide)
set_option maxHeartbeats 1600000 in
set_option maxRecDepth 20000 in
theorem mvalid4 (m : Jo.Mark) (h : m.layer = 4) (ht : m.text.length ≤ 9223372036854775807) : PCall Tryz.prog 27 [.agg (encMk m)] (.b (markOk m)) := by
 have hlk : lk [((1 : Int), (1 : Nat)), (2, 2), (3, 3), (4, 4)] m.layer = some 4 := by rw [h]; rfl
 have hf := lay6_spec m.who
 have hby : byOk m.layer m.who = byOk 4 m.who := by rw [h]
 refine PCall.body Tryz.func27 rfl rfl Tryz.ntmps27 rfl rfl ?_
 repeat' (first | refine aoQ rfl rfl rfl (fun hg => by exact std0) (by exact rfl) ?_ | refine sqW ?_ | refine rgK (fun K' hK => ?_) | (refine aoN (hK _ _ ?_); clear hK K') | refine aoE (bxW rfl rfl rfl rfl rfl tI rfl rfl ?_))
 refine AWP.drawY (fun k => match k with | 0 => [.var (encMk m)] | 1 => [.var (encMk m), .var [.prim .nilFunc, .prim .nilFunc]] | _ => [.var (encMk m), .var [.fn (.func 105) [] [], .fn (.func 106) [] []]]) rfl (by kernel_rfl) (by decide +kernel) rfl (by decide +kernel) (fun K' hK => ?_)
 repeat' (first
  | refine yqQ (a := 0) (b := 0) rfl (by decide +kernel) (by decide +kernel) rfl rfl rfl (fun k h1 h2 hg => by (have hk : k = 0 := (by omega)); (rcases hk with rfl) <;> (first | exact std0 | exact pcW (layers_spec) rfl rfl nd rfl nds | exact PRun.lookupV (ek := ekI) (ev := layF) (zv := 0) hlk (keyLaw_int (LOk.of (tabOk.get rfl))) (LOk.of (tabOk.get rfl)) (LOk.of (tabOk.get rfl)) rfl rfl (Rd.w rfl nd) (Or.inl rfl) (Rd.w rfl nd) rfl | exact std1)) (by exact rfl) ?_
  | refine yqQ (a := 0) (b := 1) rfl (by decide +kernel) (by decide +kernel) rfl rfl rfl (fun k h1 h2 hg => by (have hk : k = 0 ∨ k = 1 := (by omega)); (rcases hk with rfl | rfl) <;> (first | exact std0 | exact pcW (layers_spec) rfl rfl nd rfl nds | exact PRun.lookupV (ek := ekI) (ev := layF) (zv := 0) hlk (keyLaw_int (LOk.of (tabOk.get rfl))) (LOk.of (tabOk.get rfl)) (LOk.of (tabOk.get rfl)) rfl rfl (Rd.w rfl nd) (Or.inl rfl) (Rd.w rfl nd) rfl | exact std1)) (by exact rfl) ?_
  | refine yqQ (a := 1) (b := 1) rfl (by decide +kernel) (by decide +kernel) rfl rfl rfl (fun k h1 h2 hg => by (have hk : k = 1 := (by omega)); (rcases hk with rfl) <;> (first | exact std0 | exact pcW (layers_spec) rfl rfl nd rfl nds | exact PRun.lookupV (ek := ekI) (ev := layF) (zv := 0) hlk (keyLaw_int (LOk.of (tabOk.get rfl))) (LOk.of (tabOk.get rfl)) (LOk.of (tabOk.get rfl)) rfl rfl (Rd.w rfl nd) (Or.inl rfl) (Rd.w rfl nd) rfl | exact std1)) (by exact rfl) ?_
  | refine yqQ (a := 0) (b := 2) rfl (by decide +kernel) (by decide +kernel) rfl rfl rfl (fun k h1 h2 hg => by (have hk : k = 0 ∨ k = 1 ∨ k = 2 := (by omega)); (rcases hk with rfl | rfl | rfl) <;> (first | exact std0 | exact pcW (layers_spec) rfl rfl nd rfl nds | exact PRun.lookupV (ek := ekI) (ev := layF) (zv := 0) hlk (keyLaw_int (LOk.of (tabOk.get rfl))) (LOk.of (tabOk.get rfl)) (LOk.of (tabOk.get rfl)) rfl rfl (Rd.w rfl nd) (Or.inl rfl) (Rd.w rfl nd) rfl | exact std1)) (by exact rfl) ?_
  | refine yqQ (a := 1) (b := 2) rfl (by decide +kernel) (by decide +kernel) rfl rfl rfl (fun k h1 h2 hg => by (have hk : k = 1 ∨ k = 2 := (by omega)); (rcases hk with rfl | rfl) <;> (first | exact std0 | exact pcW (layers_spec) rfl rfl nd rfl nds | exact PRun.lookupV (ek := ekI) (ev := layF) (zv := 0) hlk (keyLaw_int (LOk.of (tabOk.get rfl))) (LOk.of (tabOk.get rfl)) (LOk.of (tabOk.get rfl)) rfl rfl (Rd.w rfl nd) (Or.inl rfl) (Rd.w rfl nd) rfl | exact std1)) (by exact rfl) ?_
  | refine yqQ (a := 2) (b := 2) rfl (by decide +kernel) (by decide +kernel) rfl rfl rfl (fun k h1 h2 hg => by (have hk : k = 2 := (by omega)); (rcases hk with rfl) <;> (first | exact std0 | exact pcW (layers_spec) rfl rfl nd rfl nds | exact PRun.lookupV (ek := ekI) (ev := layF) (zv := 0) hlk (keyLaw_int (LOk.of (tabOk.get rfl))) (LOk.of (tabOk.get rfl)) (LOk.of (tabOk.get rfl)) rfl rfl (Rd.w rfl nd) (Or.inl rfl) (Rd.w rfl nd) rfl | exact std1)) (by exact rfl) ?_)
 refine YQ.e (v := .ptr 1 0) (d := some 3) rfl rfl rfl ?_ ?_
 · intro env' he
   exact alW tabOk rfl rfl rfl rfl rfl rfl ⟨rfl, rfl⟩
 repeat' (first
  | refine yqQ (a := 0) (b := 0) rfl (by decide +kernel) (by decide +kernel) rfl rfl rfl (fun k h1 h2 hg => by (have hk : k = 0 := (by omega)); (rcases hk with rfl) <;> (first | exact std0 | exact std1)) (by exact rfl) ?_
  | refine yqQ (a := 0) (b := 1) rfl (by decide +kernel) (by decide +kernel) rfl rfl rfl (fun k h1 h2 hg => by (have hk : k = 0 ∨ k = 1 := (by omega)); (rcases hk with rfl | rfl) <;> (first | exact std0 | exact std1)) (by exact rfl) ?_
  | refine yqQ (a := 1) (b := 1) rfl (by decide +kernel) (by decide +kernel) rfl rfl rfl (fun k h1 h2 hg => by (have hk : k = 1 := (by omega)); (rcases hk with rfl) <;> (first | exact std0 | exact std1)) (by exact rfl) ?_
  | refine yqQ (a := 0) (b := 2) rfl (by decide +kernel) (by decide +kernel) rfl rfl rfl (fun k h1 h2 hg => by (have hk : k = 0 ∨ k = 1 ∨ k = 2 := (by omega)); (rcases hk with rfl | rfl | rfl) <;> (first | exact std0 | exact std1)) (by exact rfl) ?_
  | refine yqQ (a := 1) (b := 2) rfl (by decide +kernel) (by decide +kernel) rfl rfl rfl (fun k h1 h2 hg => by (have hk : k = 1 ∨ k = 2 := (by omega)); (rcases hk with rfl | rfl) <;> (first | exact std0 | exact std1)) (by exact rfl) ?_
  | refine yqQ (a := 2) (b := 2) rfl (by decide +kernel) (by decide +kernel) rfl rfl rfl (fun k h1 h2 hg => by (have hk : k = 2 := (by omega)); (rcases hk with rfl) <;> (first | exact std0 | exact std1)) (by exact rfl) ?_)
 refine YQ.e (v := .any) (d := none) rfl rfl rfl ?_ ?_
 · intro env' he
   exact stW tabOk rfl rfl ((rdv_congr (he 3 (by decide +kernel))).trans rfl) (by rw [rdn_congr (he 3 (by decide +kernel))]; exact tI) rfl ((rdv_congr (he 12 (by decide +kernel))).trans rfl) (by rw [rdn_congr (he 12 (by decide +kernel))]; exact tI) rfl rfl rfl rfl rfl rfl rfl ⟨rfl, rfl⟩
 repeat' (first
  | refine yqQ (a := 0) (b := 0) rfl (by decide +kernel) (by decide +kernel) rfl rfl rfl (fun k h1 h2 hg => by (have hk : k = 0 := (by omega)); (rcases hk with rfl) <;> (first | exact std0 | exact std1)) (by exact rfl) ?_
  | refine yqQ (a := 0) (b := 1) rfl (by decide +kernel) (by decide +kernel) rfl rfl rfl (fun k h1 h2 hg => by (have hk : k = 0 ∨ k = 1 := (by omega)); (rcases hk with rfl | rfl) <;> (first | exact std0 | exact std1)) (by exact rfl) ?_
  | refine yqQ (a := 1) (b := 1) rfl (by decide +kernel) (by decide +kernel) rfl rfl rfl (fun k h1 h2 hg => by (have hk : k = 1 := (by omega)); (rcases hk with rfl) <;> (first | exact std0 | exact std1)) (by exact rfl) ?_
  | refine yqQ (a := 0) (b := 2) rfl (by decide +kernel) (by decide +kernel) rfl rfl rfl (fun k h1 h2 hg => by (have hk : k = 0 ∨ k = 1 ∨ k = 2 := (by omega)); (rcases hk with rfl | rfl | rfl) <;> (first | exact std0 | exact std1)) (by exact rfl) ?_
  | refine yqQ (a := 1) (b := 2) rfl (by decide +kernel) (by decide +kernel) rfl rfl rfl (fun k h1 h2 hg => by (have hk : k = 1 ∨ k = 2 := (by omega)); (rcases hk with rfl | rfl) <;> (first | exact std0 | exact std1)) (by exact rfl) ?_
  | refine yqQ (a := 2) (b := 2) rfl (by decide +kernel) (by decide +kernel) rfl rfl rfl (fun k h1 h2 hg => by (have hk : k = 2 := (by omega)); (rcases hk with rfl) <;> (first | exact std0 | exact std1)) (by exact rfl) ?_)
 refine YQ.nil (hK _ _ ?_)
 clear hK K'
 refine AWP.keep [(1, .ptr 0 0), (3, .ptr 1 0), (4, .b true)] ⟨rfl, rfl, rfl, tI⟩ ?_
 show AWP _ _ _ _ _ [.var (encMk m), .var [.fn (.func 105) [] [], .fn (.func 106) [] []]]
 clear hlk
 have hsz : (⟨m.text.toArray⟩ : ByteArray).size = m.text.length := by simp [ByteArray.size]
 have hw := contains_spec (runesS ⟨m.text.toArray⟩) (by have := runesN_len ⟨m.text.toArray⟩ (⟨m.text.toArray⟩ : ByteArray).size 0; rw [hsz] at this; unfold runesS; rw [hsz]; omega)
 repeat' (first | refine aoQ rfl rfl rfl (fun hg => by first | exact std0 | exact pcW (hf) rfl rfl nd rfl nds | exact pcW (mid_spec _) rfl rfl nd rfl nds | exact pcW (mwithin_spec _ _ _) rfl rfl nd rfl nds | exact PRun.strRunes tabOk rfl rfl nd rfl rfl rfl (by rw [hsz]; first | (have h9 : ((_ && decide ((((⟨m.text.toArray⟩ : ByteArray).size : Nat) : Int) ≤ 200)) == true) = true := hg; rw [hsz] at h9; simp at h9; omega) | (have h9 : (_ && decide ((((⟨m.text.toArray⟩ : ByteArray).size : Nat) : Int) ≤ 200)) = true := hg; rw [hsz] at h9; simp at h9; omega)) | exact pcW (hw) rfl rfl nd rfl nds | exact std1) (by exact rfl) ?_ | refine sqW ?_ | refine rgK (fun K' hK => ?_) | (refine aoN (hK _ _ ?_); clear hK K') | refine cdN rfl tI (fun hc => ?_) (fun hc => ?_) | refine skW ?_ | refine rtW ?_)
 · refine ⟨.inr rfl, Ent.b ?_⟩
   unfold markOk
   rw [hby]
   clear hf hw
   (revert hc; generalize (textOk m.text) = z0; generalize (byOk 4 m.who) = z1; generalize (isId m.id) = z2; generalize (isId m.version) = z3; generalize (isId m.note) = z4; generalize (inR m.kind 1 5) = z5; generalize (inR m.value 0 1000) = z6; generalize (m.kind != 1 || decide (m.value ≤ 2)) = z7; revert z0 z1 z2 z3 z4 z5 z6 z7; decide)
 · have hk : m.kind = 1 := eq_of_beq hc
   rename_i hg
   refine ⟨.inr rfl, Ent.b ?_⟩
   unfold markOk
   rw [hby, textOk_runes]
   refine Eq.trans (b := ((inR m.value 0 2 && decide ((((⟨m.text.toArray⟩ : ByteArray).size : Nat) : Int) ≤ 200)) && !(runesS ⟨m.text.toArray⟩).any badR)) rfl ?_
   rw [hsz, inR_2, len200, hk]
   rw [hk] at hg
   clear hf hw hc
   show _ = ((decide (m.text.length ≤ 200) && !(runesS ⟨m.text.toArray⟩).any badR) && byOk 4 m.who && isId m.id && isId m.version && isId m.note && inR 1 1 5 && inR m.value 0 1000 && (false || decide (m.value ≤ 2)))
   (revert hg; generalize ((runesS ⟨m.text.toArray⟩).any badR) = z0; generalize (decide (m.text.length ≤ 200)) = z1; generalize (byOk 4 m.who) = z2; generalize (isId m.id) = z3; generalize (isId m.version) = z4; generalize (isId m.note) = z5; generalize (inR 1 1 5) = z6; generalize (inR m.value 0 1000) = z7; generalize (decide (m.value ≤ 2)) = z8; revert z0 z1 z2 z3 z4 z5 z6 z7 z8; decide)
 · rename_i hg
   refine ⟨.inr rfl, Ent.b ?_⟩
   unfold markOk
   rw [hby, textOk_runes]
   refine Eq.trans (b := ((inR m.value 0 1000 && decide ((((⟨m.text.toArray⟩ : ByteArray).size : Nat) : Int) ≤ 200)) && !(runesS ⟨m.text.toArray⟩).any badR)) rfl ?_
   have hk : (m.kind != 1) = true := by unfold bne; rw [hc]; rfl
   rw [hsz, len200, hk]
   clear hf hw hc
   show _ = ((decide (m.text.length ≤ 200) && !(runesS ⟨m.text.toArray⟩).any badR) && byOk 4 m.who && isId m.id && isId m.version && isId m.note && inR m.kind 1 5 && inR m.value 0 1000 && (true || decide (m.value ≤ 2)))
   (revert hg; generalize ((runesS ⟨m.text.toArray⟩).any badR) = z0; generalize (decide (m.text.length ≤ 200)) = z1; generalize (byOk 4 m.who) = z2; generalize (isId m.id) = z3; generalize (isId m.version) = z4; generalize (isId m.note) = z5; generalize (inR m.kind 1 5) = z6; generalize (inR m.value 0 1000) = z7; generalize (decide (m.value ≤ 2)) = z8; revert z0 z1 z2 z3 z4 z5 z6 z7 z8; decide)
set_option maxHeartbeats 1600000 in
set_option maxRecDepth 20000 in
theorem mvalid0 (m : Jo.Mark) (h : m.layer ≠ 1 ∧ m.layer ≠ 2 ∧ m.layer ≠ 3 ∧ m.layer ≠ 4) (ht : m.text.length ≤ 9223372036854775807) : PCall Tryz.prog 27 [.agg (encMk m)] (.b (markOk m)) := by
 have hlk : lk [((1 : Int), (1 : Nat)), (2, 2), (3, 3), (4, 4)] m.layer = none := by simp only [lk]; rw [if_neg (Ne.symm h.1), if_neg (Ne.symm h.2.1), if_neg (Ne.symm h.2.2.1), if_neg (Ne.symm h.2.2.2)]
 have hby : byOk m.layer m.who = false := by unfold byOk; rw [if_neg h.1, if_neg h.2.1, if_neg h.2.2.1, if_neg h.2.2.2]
 refine PCall.body Tryz.func27 rfl rfl Tryz.ntmps27 rfl rfl ?_
 repeat' (first | refine aoQ rfl rfl rfl (fun hg => by exact std0) (by exact rfl) ?_ | refine sqW ?_ | refine rgK (fun K' hK => ?_) | (refine aoN (hK _ _ ?_); clear hK K') | refine aoE (bxW rfl rfl rfl rfl rfl tI rfl rfl ?_))
 refine AWP.drawY (fun k => match k with | 0 => [.var (encMk m)] | 1 => [.var (encMk m), .var [.prim .nilFunc, .prim .nilFunc]] | _ => [.var (encMk m), .var [.prim .nilFunc, .prim .nilFunc]]) rfl (by kernel_rfl) (by decide +kernel) rfl (by decide +kernel) (fun K' hK => ?_)
 repeat' (first
  | refine yqQ (a := 0) (b := 0) rfl (by decide +kernel) (by decide +kernel) rfl rfl rfl (fun k h1 h2 hg => by (have hk : k = 0 := (by omega)); (rcases hk with rfl) <;> (first | exact std0 | exact pcW (layers_spec) rfl rfl nd rfl nds | exact PRun.lookupV (ek := ekI) (ev := layF) (zv := 0) hlk (keyLaw_int (LOk.of (tabOk.get rfl))) (LOk.of (tabOk.get rfl)) (LOk.of (tabOk.get rfl)) rfl rfl (Rd.w rfl nd) (Or.inl rfl) (Rd.w rfl nd) rfl | exact std1)) (by exact rfl) ?_
  | refine yqQ (a := 0) (b := 1) rfl (by decide +kernel) (by decide +kernel) rfl rfl rfl (fun k h1 h2 hg => by (have hk : k = 0 ∨ k = 1 := (by omega)); (rcases hk with rfl | rfl) <;> (first | exact std0 | exact pcW (layers_spec) rfl rfl nd rfl nds | exact PRun.lookupV (ek := ekI) (ev := layF) (zv := 0) hlk (keyLaw_int (LOk.of (tabOk.get rfl))) (LOk.of (tabOk.get rfl)) (LOk.of (tabOk.get rfl)) rfl rfl (Rd.w rfl nd) (Or.inl rfl) (Rd.w rfl nd) rfl | exact std1)) (by exact rfl) ?_
  | refine yqQ (a := 1) (b := 1) rfl (by decide +kernel) (by decide +kernel) rfl rfl rfl (fun k h1 h2 hg => by (have hk : k = 1 := (by omega)); (rcases hk with rfl) <;> (first | exact std0 | exact pcW (layers_spec) rfl rfl nd rfl nds | exact PRun.lookupV (ek := ekI) (ev := layF) (zv := 0) hlk (keyLaw_int (LOk.of (tabOk.get rfl))) (LOk.of (tabOk.get rfl)) (LOk.of (tabOk.get rfl)) rfl rfl (Rd.w rfl nd) (Or.inl rfl) (Rd.w rfl nd) rfl | exact std1)) (by exact rfl) ?_
  | refine yqQ (a := 0) (b := 2) rfl (by decide +kernel) (by decide +kernel) rfl rfl rfl (fun k h1 h2 hg => by (have hk : k = 0 ∨ k = 1 ∨ k = 2 := (by omega)); (rcases hk with rfl | rfl | rfl) <;> (first | exact std0 | exact pcW (layers_spec) rfl rfl nd rfl nds | exact PRun.lookupV (ek := ekI) (ev := layF) (zv := 0) hlk (keyLaw_int (LOk.of (tabOk.get rfl))) (LOk.of (tabOk.get rfl)) (LOk.of (tabOk.get rfl)) rfl rfl (Rd.w rfl nd) (Or.inl rfl) (Rd.w rfl nd) rfl | exact std1)) (by exact rfl) ?_
  | refine yqQ (a := 1) (b := 2) rfl (by decide +kernel) (by decide +kernel) rfl rfl rfl (fun k h1 h2 hg => by (have hk : k = 1 ∨ k = 2 := (by omega)); (rcases hk with rfl | rfl) <;> (first | exact std0 | exact pcW (layers_spec) rfl rfl nd rfl nds | exact PRun.lookupV (ek := ekI) (ev := layF) (zv := 0) hlk (keyLaw_int (LOk.of (tabOk.get rfl))) (LOk.of (tabOk.get rfl)) (LOk.of (tabOk.get rfl)) rfl rfl (Rd.w rfl nd) (Or.inl rfl) (Rd.w rfl nd) rfl | exact std1)) (by exact rfl) ?_
  | refine yqQ (a := 2) (b := 2) rfl (by decide +kernel) (by decide +kernel) rfl rfl rfl (fun k h1 h2 hg => by (have hk : k = 2 := (by omega)); (rcases hk with rfl) <;> (first | exact std0 | exact pcW (layers_spec) rfl rfl nd rfl nds | exact PRun.lookupV (ek := ekI) (ev := layF) (zv := 0) hlk (keyLaw_int (LOk.of (tabOk.get rfl))) (LOk.of (tabOk.get rfl)) (LOk.of (tabOk.get rfl)) rfl rfl (Rd.w rfl nd) (Or.inl rfl) (Rd.w rfl nd) rfl | exact std1)) (by exact rfl) ?_)
 refine YQ.e (v := .ptr 1 0) (d := some 3) rfl rfl rfl ?_ ?_
 · intro env' he
   exact alW tabOk rfl rfl rfl rfl rfl rfl ⟨rfl, rfl⟩
 repeat' (first
  | refine yqQ (a := 0) (b := 0) rfl (by decide +kernel) (by decide +kernel) rfl rfl rfl (fun k h1 h2 hg => by (have hk : k = 0 := (by omega)); (rcases hk with rfl) <;> (first | exact std0 | exact std1)) (by exact rfl) ?_
  | refine yqQ (a := 0) (b := 1) rfl (by decide +kernel) (by decide +kernel) rfl rfl rfl (fun k h1 h2 hg => by (have hk : k = 0 ∨ k = 1 := (by omega)); (rcases hk with rfl | rfl) <;> (first | exact std0 | exact std1)) (by exact rfl) ?_
  | refine yqQ (a := 1) (b := 1) rfl (by decide +kernel) (by decide +kernel) rfl rfl rfl (fun k h1 h2 hg => by (have hk : k = 1 := (by omega)); (rcases hk with rfl) <;> (first | exact std0 | exact std1)) (by exact rfl) ?_
  | refine yqQ (a := 0) (b := 2) rfl (by decide +kernel) (by decide +kernel) rfl rfl rfl (fun k h1 h2 hg => by (have hk : k = 0 ∨ k = 1 ∨ k = 2 := (by omega)); (rcases hk with rfl | rfl | rfl) <;> (first | exact std0 | exact std1)) (by exact rfl) ?_
  | refine yqQ (a := 1) (b := 2) rfl (by decide +kernel) (by decide +kernel) rfl rfl rfl (fun k h1 h2 hg => by (have hk : k = 1 ∨ k = 2 := (by omega)); (rcases hk with rfl | rfl) <;> (first | exact std0 | exact std1)) (by exact rfl) ?_
  | refine yqQ (a := 2) (b := 2) rfl (by decide +kernel) (by decide +kernel) rfl rfl rfl (fun k h1 h2 hg => by (have hk : k = 2 := (by omega)); (rcases hk with rfl) <;> (first | exact std0 | exact std1)) (by exact rfl) ?_)
 refine YQ.e (v := .any) (d := none) rfl rfl rfl ?_ ?_
 · intro env' he
   exact stW tabOk rfl rfl ((rdv_congr (he 3 (by decide +kernel))).trans rfl) (by rw [rdn_congr (he 3 (by decide +kernel))]; exact tI) rfl ((rdv_congr (he 12 (by decide +kernel))).trans rfl) (by rw [rdn_congr (he 12 (by decide +kernel))]; exact tI) rfl rfl rfl rfl rfl rfl rfl ⟨rfl, rfl⟩
 repeat' (first
  | refine yqQ (a := 0) (b := 0) rfl (by decide +kernel) (by decide +kernel) rfl rfl rfl (fun k h1 h2 hg => by (have hk : k = 0 := (by omega)); (rcases hk with rfl) <;> (first | exact std0 | exact std1)) (by exact rfl) ?_
  | refine yqQ (a := 0) (b := 1) rfl (by decide +kernel) (by decide +kernel) rfl rfl rfl (fun k h1 h2 hg => by (have hk : k = 0 ∨ k = 1 := (by omega)); (rcases hk with rfl | rfl) <;> (first | exact std0 | exact std1)) (by exact rfl) ?_
  | refine yqQ (a := 1) (b := 1) rfl (by decide +kernel) (by decide +kernel) rfl rfl rfl (fun k h1 h2 hg => by (have hk : k = 1 := (by omega)); (rcases hk with rfl) <;> (first | exact std0 | exact std1)) (by exact rfl) ?_
  | refine yqQ (a := 0) (b := 2) rfl (by decide +kernel) (by decide +kernel) rfl rfl rfl (fun k h1 h2 hg => by (have hk : k = 0 ∨ k = 1 ∨ k = 2 := (by omega)); (rcases hk with rfl | rfl | rfl) <;> (first | exact std0 | exact std1)) (by exact rfl) ?_
  | refine yqQ (a := 1) (b := 2) rfl (by decide +kernel) (by decide +kernel) rfl rfl rfl (fun k h1 h2 hg => by (have hk : k = 1 ∨ k = 2 := (by omega)); (rcases hk with rfl | rfl) <;> (first | exact std0 | exact std1)) (by exact rfl) ?_
  | refine yqQ (a := 2) (b := 2) rfl (by decide +kernel) (by decide +kernel) rfl rfl rfl (fun k h1 h2 hg => by (have hk : k = 2 := (by omega)); (rcases hk with rfl) <;> (first | exact std0 | exact std1)) (by exact rfl) ?_)
 refine YQ.nil (hK _ _ ?_)
 clear hK K'
 refine AWP.keep [(1, .ptr 0 0), (3, .ptr 1 0), (4, .b false)] ⟨rfl, rfl, rfl, tI⟩ ?_
 show AWP _ _ _ _ _ [.var (encMk m), .var [.prim .nilFunc, .prim .nilFunc]]
 clear hlk
 have hsz : (⟨m.text.toArray⟩ : ByteArray).size = m.text.length := by simp [ByteArray.size]
 have hw := contains_spec (runesS ⟨m.text.toArray⟩) (by have := runesN_len ⟨m.text.toArray⟩ (⟨m.text.toArray⟩ : ByteArray).size 0; rw [hsz] at this; unfold runesS; rw [hsz]; omega)
 repeat' (first | refine aoQ rfl rfl rfl (fun hg => by first | exact std0 | exact pcW (mid_spec _) rfl rfl nd rfl nds | exact pcW (mwithin_spec _ _ _) rfl rfl nd rfl nds | exact (absurd hg (by intro hg; cases hg) : PRun _ _ _ _ (.b false)) | exact std1 | fail) (by exact rfl) ?_ | refine sqW ?_ | refine rgK (fun K' hK => ?_) | (refine aoN (hK _ _ ?_); clear hK K') | refine cdN rfl tI (fun hc => ?_) (fun hc => ?_) | refine skW ?_ | refine rtW ?_)
 · refine ⟨.inr rfl, Ent.b ?_⟩
   unfold markOk
   rw [hby]; simp
 all_goals (exfalso; rename_i hg; simp at hg; done)
theorem mvalid_spec (m : Jo.Mark) (ht : m.text.length ≤ 9223372036854775807) : PCall Tryz.prog 27 [.agg (encMk m)] (.b (markOk m)) := by
 by_cases h1 : m.layer = 1
 · exact mvalid1 m h1 ht
 by_cases h2 : m.layer = 2
 · exact mvalid2 m h2 ht
 by_cases h3 : m.layer = 3
 · exact mvalid3 m h3 ht
 by_cases h4 : m.layer = 4
 · exact mvalid4 m h4 ht
 exact mvalid0 m ⟨h1, h2, h3, h4⟩ ht
end Go.Proofs.YtficfljjnbnhbaaGreatDoor.Mk
