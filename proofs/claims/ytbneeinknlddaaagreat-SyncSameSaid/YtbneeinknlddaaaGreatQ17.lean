/- Contracts by content: a mark of the program. No statement is proved here. -/
import Derived.Test.YtbneeinknlddaaaGreatQ8
import Derived.Test.YtbneeinknlddaaaGreatQ16
set_option linter.unusedVariables false
set_option linter.unusedSimpArgs false
namespace Go.Ab
theorem PRun.lookupV {P : Program} {o : Oper} {env : Env} {σ : Store} {κ α : Type} [DecidableEq κ] {ek : κ → Value} {ev : α → AV} {t kt et : TypeId} {m x : Operand} {al : List (κ × α)} {key : κ} {zv : α} {uk um : AV} {ok : Bool} {s1 b1 : Nat} {z : List Z} {le : LI} {r : Option α} (h : lk al key = r)
 (K : KeyLaw P kt ek) (hl : LOk P t ⟨.map kt et, s1, b1, z⟩) (he : LOk P et le) (hz : zeroAV le = ev zv) (ho : o.op = .lookup t m x ok) (hm : Rd env m um)
 (hum : um = .imap (encM ek ev al) ∨ ∃ l, um = .map l ∧ σ[l]? = some (.map (encM ek ev al)))
 (hx : Rd env x uk) (hex : exactV uk = some (ek key)) : PRun P o env σ (if ok then .tup [ev (r.getD zv), .b r.isSome] else ev (r.getD zv)) := h ▸ PRun.lookup K hl he hz ho hm hum hx hex
end Go.Ab
namespace Go.Proofs.YtbneeinknlddaaaGreat
open Go.Ab Go.Jo
attribute [local irreducible] AWP AOps EStep AQ PStep PRun PCall TCall VCall DStep TDies AWD DCall
theorem inR_2 (v : Int) : inR v 0 2 = (inR v 0 1000 && decide (v ≤ 2)) := by
 unfold inR; rw [zBm]; simp; omega
theorem len200 (t : Bs) : decide (((t.length : Nat) : Int) ≤ 200) = decide (t.length ≤ 200) := by
 rw [zBm]; simp; omega
set_option maxHeartbeats 1600000 in
set_option maxRecDepth 20000 in
theorem mvalid1 (m : Jo.Mark) (h : m.layer = 1) (ht : m.text.length ≤ 9223372036854775807) : PCall Tryz.prog 71 [.agg (Go.Proofs.YtbneeinknlddaaaGreat.encM m)] (.b (markOk m)) := by
 have hlk : lk [((1 : Int), (1 : Nat)), (2, 2), (3, 3), (4, 4)] m.layer = some 1 := by rw [h]; rfl
 have hf := mrdr_spec m.who
 have hby : byOk m.layer m.who = isRdr m.who := by unfold byOk; rw [if_pos h]
 refine PCall.body Tryz.func71 rfl rfl Tryz.ntmps71 rfl rfl ?_
 repeat' (first | refine aoQ rfl rfl rfl (fun hg => by exact std0) (by exact rfl) ?_ | refine sqW ?_ | refine rgK (fun K' hK => ?_) | (refine aoN (hK _ _ ?_); clear hK K') | refine aoE (bxW rfl rfl rfl rfl rfl tI rfl rfl ?_))
 refine AWP.drawY (fun k => match k with | 0 => [.var (Go.Proofs.YtbneeinknlddaaaGreat.encM m)] | 1 => [.var (Go.Proofs.YtbneeinknlddaaaGreat.encM m), .var [.prim .nilFunc, .prim .nilFunc]] | _ => [.var (Go.Proofs.YtbneeinknlddaaaGreat.encM m), .var [.fn (.func 118) [] [], .fn (.func 119) [] []]]) rfl (by kernel_rfl) (by decide +kernel) rfl (by decide +kernel) (fun K' hK => ?_)
 repeat' (first
  | refine yqQ (a := 0) (b := 0) rfl (by decide +kernel) (by decide +kernel) rfl rfl rfl (fun k h1 h2 hg => by (have hk : k = 0 := (by omega)); (rcases hk with rfl) <;> (first | exact std0 | exact pcW (layers_spec) rfl rfl nd rfl nds | exact PRun.lookupV (ek := ekI) (ev := layF) (zv := 0) hlk (keyLaw_int (LOk.of (tabOk.get rfl))) (LOk.of (tabOk.get rfl)) (LOk.of (tabOk.get rfl)) rfl rfl (Rd.w rfl nd) (Or.inl rfl) (Rd.w rfl nd) rfl | exact std1)) (by exact rfl) ?_
  | refine yqQ (a := 0) (b := 1) rfl (by decide +kernel) (by decide +kernel) rfl rfl rfl (fun k h1 h2 hg => by (have hk : k = 0 ∨ k = 1 := (by omega)); (rcases hk with rfl | rfl) <;> (first | exact std0 | exact pcW (layers_spec) rfl rfl nd rfl nds | exact PRun.lookupV (ek := ekI) (ev := layF) (zv := 0) hlk (keyLaw_int (LOk.of (tabOk.get rfl))) (LOk.of (tabOk.get rfl)) (LOk.of (tabOk.get rfl)) rfl rfl (Rd.w rfl nd) (Or.inl rfl) (Rd.w rfl nd) rfl | exact std1)) (by exact rfl) ?_
  | refine yqQ (a := 1) (b := 1) rfl (by decide +kernel) (by decide +kernel) rfl rfl rfl (fun k h1 h2 hg => by (have hk : k = 1 := (by omega)); (rcases hk with rfl) <;> (first | exact std0 | exact pcW (layers_spec) rfl rfl nd rfl nds | exact PRun.lookupV (ek := ekI) (ev := layF) (zv := 0) hlk (keyLaw_int (LOk.of (tabOk.get rfl))) (LOk.of (tabOk.get rfl)) (LOk.of (tabOk.get rfl)) rfl rfl (Rd.w rfl nd) (Or.inl rfl) (Rd.w rfl nd) rfl | exact std1)) (by exact rfl) ?_
  | refine yqQ (a := 0) (b := 2) rfl (by decide +kernel) (by decide +kernel) rfl rfl rfl (fun k h1 h2 hg => by (have hk : k = 0 ∨ k = 1 ∨ k = 2 := (by omega)); (rcases hk with rfl | rfl | rfl) <;> (first | exact std0 | exact pcW (layers_spec) rfl rfl nd rfl nds | exact PRun.lookupV (ek := ekI) (ev := layF) (zv := 0) hlk (keyLaw_int (LOk.of (tabOk.get rfl))) (LOk.of (tabOk.get rfl)) (LOk.of (tabOk.get rfl)) rfl rfl (Rd.w rfl nd) (Or.inl rfl) (Rd.w rfl nd) rfl | exact std1)) (by exact rfl) ?_
  | refine yqQ (a := 1) (b := 2) rfl (by decide +kernel) (by decide +kernel) rfl rfl rfl (fun k h1 h2 hg => by (have hk : k = 1 ∨ k = 2 := (by omega)); (rcases hk with rfl | rfl) <;> (first | exact std0 | exact pcW (layers_spec) rfl rfl nd rfl nds | exact PRun.lookupV (ek := ekI) (ev := layF) (zv := 0) hlk (keyLaw_int (LOk.of (tabOk.get rfl))) (LOk.of (tabOk.get rfl)) (LOk.of (tabOk.get rfl)) rfl rfl (Rd.w rfl nd) (Or.inl rfl) (Rd.w rfl nd) rfl | exact std1)) (by exact rfl) ?_
  | refine yqQ (a := 2) (b := 2) rfl (by decide +kernel) (by decide +kernel) rfl rfl rfl (fun k h1 h2 hg => by (have hk : k = 2 := (by omega)); (rcases hk with rfl) <;> (first | exact std0 | exact pcW (layers_spec) rfl rfl nd rfl nds | exact PRun.lookupV (ek := ekI) (ev := layF) (zv := 0) hlk (keyLaw_int (LOk.of (tabOk.get rfl))) (LOk.of (tabOk.get rfl)) (LOk.of (tabOk.get rfl)) rfl rfl (Rd.w rfl nd) (Or.inl rfl) (Rd.w rfl nd) rfl | exact std1)) (by exact rfl) ?_)
 refine YQ.e (v := .ptr 1 0) (d := some 3) rfl rfl rfl ?_ ?_
 · intro env' he
   exact alW tabOk rfl rfl rfl rfl rfl rfl ⟨rfl, rfl⟩
 repeat' (first
  | refine yqQ (a := 0) (b := 0) rfl (by decide +kernel) (by decide +kernel) rfl rfl rfl (fun k h1 h2 hg => by (have hk : k = 0 := (by omega)); (rcases hk with rfl) <;> (first | exact std0 | exact std1)) (by exact rfl) ?_
  | refine yqQ (a := 0) (b := 1) rfl (by decide +kernel) (by decide +kernel) rfl rfl rfl (fun k h1 h2 hg => by (have hk : k = 0 ∨ k = 1 := (by omega)); (rcases hk with rfl | rfl) <;> (first | exact std0 | exact std1)) (by exact rfl) ?_
  | refine yqQ (a := 1) (b := 1) rfl (by decide +kernel) (by decide +kernel) rfl rfl rfl (fun k h1 h2 hg => by (have hk : k = 1 := (by omega)); (rcases hk with rfl) <;> (first | exact std0 | exact std1)) (by exact rfl) ?_
  | refine yqQ (a := 0) (b := 2) rfl (by decide +kernel) (by decide +kernel) rfl rfl rfl (fun k h1 h2 hg => by (have hk : k = 0 ∨ k = 1 ∨ k = 2 := (by omega)); (rcases hk with rfl | rfl | rfl) <;> (first | exact std0 | exact std1)) (by exact rfl) ?_
  | refine yqQ (a := 1) (b := 2) rfl (by decide +kernel) (by decide +kernel) rfl rfl rfl (fun k h1 h2 hg => by (have hk : k = 1 ∨ k = 2 := (by omega)); (rcases hk with rfl | rfl) <;> (first | exact std0 | exact std1)) (by exact rfl) ?_
  | refine yqQ (a := 2) (b := 2) rfl (by decide +kernel) (by decide +kernel) rfl rfl rfl (fun k h1 h2 hg => by (have hk : k = 2 := (by omega)); (rcases hk with rfl) <;> (first | exact std0 | exact std1)) (by exact rfl) ?_)
 refine YQ.e (v := .any) (d := none) rfl rfl rfl ?_ ?_
 · intro env' he
   exact stW tabOk rfl rfl ((rdv_congr (he 3 (by decide +kernel))).trans rfl) (by rw [rdn_congr (he 3 (by decide +kernel))]; exact tI) rfl ((rdv_congr (he 12 (by decide +kernel))).trans rfl) (by rw [rdn_congr (he 12 (by decide +kernel))]; exact tI) rfl rfl rfl rfl rfl rfl rfl ⟨rfl, rfl⟩
 repeat' (first
  | refine yqQ (a := 0) (b := 0) rfl (by decide +kernel) (by decide +kernel) rfl rfl rfl (fun k h1 h2 hg => by (have hk : k = 0 := (by omega)); (rcases hk with rfl) <;> (first | exact std0 | exact std1)) (by exact rfl) ?_
  | refine yqQ (a := 0) (b := 1) rfl (by decide +kernel) (by decide +kernel) rfl rfl rfl (fun k h1 h2 hg => by (have hk : k = 0 ∨ k = 1 := (by omega)); (rcases hk with rfl | rfl) <;> (first | exact std0 | exact std1)) (by exact rfl) ?_
  | refine yqQ (a := 1) (b := 1) rfl (by decide +kernel) (by decide +kernel) rfl rfl rfl (fun k h1 h2 hg => by (have hk : k = 1 := (by omega)); (rcases hk with rfl) <;> (first | exact std0 | exact std1)) (by exact rfl) ?_
  | refine yqQ (a := 0) (b := 2) rfl (by decide +kernel) (by decide +kernel) rfl rfl rfl (fun k h1 h2 hg => by (have hk : k = 0 ∨ k = 1 ∨ k = 2 := (by omega)); (rcases hk with rfl | rfl | rfl) <;> (first | exact std0 | exact std1)) (by exact rfl) ?_
  | refine yqQ (a := 1) (b := 2) rfl (by decide +kernel) (by decide +kernel) rfl rfl rfl (fun k h1 h2 hg => by (have hk : k = 1 ∨ k = 2 := (by omega)); (rcases hk with rfl | rfl) <;> (first | exact std0 | exact std1)) (by exact rfl) ?_
  | refine yqQ (a := 2) (b := 2) rfl (by decide +kernel) (by decide +kernel) rfl rfl rfl (fun k h1 h2 hg => by (have hk : k = 2 := (by omega)); (rcases hk with rfl) <;> (first | exact std0 | exact std1)) (by exact rfl) ?_)
 refine YQ.nil (hK _ _ ?_)
 clear hK K'
 refine AWP.keep [(1, .ptr 0 0), (3, .ptr 1 0), (4, .b true)] ⟨rfl, rfl, rfl, tI⟩ ?_
 show AWP _ _ _ _ _ [.var (Go.Proofs.YtbneeinknlddaaaGreat.encM m), .var [.fn (.func 118) [] [], .fn (.func 119) [] []]]
 clear hlk
 have hsz : (⟨m.text.toArray⟩ : ByteArray).size = m.text.length := by simp [ByteArray.size]
 have hw := contains_spec (runesS ⟨m.text.toArray⟩) (by have := runesN_len ⟨m.text.toArray⟩ (⟨m.text.toArray⟩ : ByteArray).size 0; rw [hsz] at this; unfold runesS; rw [hsz]; omega)
 repeat' (first | refine aoQ rfl rfl rfl (fun hg => by first | exact std0 | exact pcW (hf) rfl rfl nd rfl nds | exact pcW (mid_spec _) rfl rfl nd rfl nds | exact pcW (mwithin_spec _ _ _) rfl rfl nd rfl nds | exact PRun.strRunes tabOk rfl rfl nd rfl rfl rfl (by rw [hsz]; first | (have h9 : ((_ && decide ((((⟨m.text.toArray⟩ : ByteArray).size : Nat) : Int) ≤ 200)) == true) = true := hg; rw [hsz] at h9; simp at h9; omega) | (have h9 : (_ && decide ((((⟨m.text.toArray⟩ : ByteArray).size : Nat) : Int) ≤ 200)) = true := hg; rw [hsz] at h9; simp at h9; omega)) | exact pcW (hw) rfl rfl nd rfl nds) (by exact rfl) ?_ | refine sqW ?_ | refine rgK (fun K' hK => ?_) | (refine aoN (hK _ _ ?_); clear hK K') | refine cdN rfl tI (fun hc => ?_) (fun hc => ?_) | refine skW ?_ | refine rtW ?_)
 · refine ⟨.inr rfl, Ent.b ?_⟩
   unfold markOk
   rw [hby]
   clear hf hw
   (revert hc; generalize (textOk m.text) = z0; generalize (isRdr m.who) = z1; generalize (isId m.id) = z2; generalize (isId m.version) = z3; generalize (isId m.note) = z4; generalize (inR m.kind 1 5) = z5; generalize (inR m.value 0 1000) = z6; generalize (m.kind != 1 || decide (m.value ≤ 2)) = z7; revert z0 z1 z2 z3 z4 z5 z6 z7; decide)
 · have hk : m.kind = 1 := eq_of_beq hc
   rename_i hg
   refine ⟨.inr rfl, Ent.b ?_⟩
   unfold markOk
   rw [hby, textOk_runes]
   refine Eq.trans (b := ((inR m.value 0 2 && decide ((((⟨m.text.toArray⟩ : ByteArray).size : Nat) : Int) ≤ 200)) && !(runesS ⟨m.text.toArray⟩).any badR)) rfl ?_
   rw [hsz, inR_2, len200, hk]
   rw [hk] at hg
   clear hf hw hc
   show _ = ((decide (m.text.length ≤ 200) && !(runesS ⟨m.text.toArray⟩).any badR) && isRdr m.who && isId m.id && isId m.version && isId m.note && inR 1 1 5 && inR m.value 0 1000 && (false || decide (m.value ≤ 2)))
   (revert hg; generalize ((runesS ⟨m.text.toArray⟩).any badR) = z0; generalize (decide (m.text.length ≤ 200)) = z1; generalize (isRdr m.who) = z2; generalize (isId m.id) = z3; generalize (isId m.version) = z4; generalize (isId m.note) = z5; generalize (inR 1 1 5) = z6; generalize (inR m.value 0 1000) = z7; generalize (decide (m.value ≤ 2)) = z8; revert z0 z1 z2 z3 z4 z5 z6 z7 z8; decide)
 · rename_i hg
   refine ⟨.inr rfl, Ent.b ?_⟩
   unfold markOk
   rw [hby, textOk_runes]
   refine Eq.trans (b := ((inR m.value 0 1000 && decide ((((⟨m.text.toArray⟩ : ByteArray).size : Nat) : Int) ≤ 200)) && !(runesS ⟨m.text.toArray⟩).any badR)) rfl ?_
   have hk : (m.kind != 1) = true := by unfold bne; rw [hc]; rfl
   rw [hsz, len200, hk]
   clear hf hw hc
   show _ = ((decide (m.text.length ≤ 200) && !(runesS ⟨m.text.toArray⟩).any badR) && isRdr m.who && isId m.id && isId m.version && isId m.note && inR m.kind 1 5 && inR m.value 0 1000 && (true || decide (m.value ≤ 2)))
   (revert hg; generalize ((runesS ⟨m.text.toArray⟩).any badR) = z0; generalize (decide (m.text.length ≤ 200)) = z1; generalize (isRdr m.who) = z2; generalize (isId m.id) = z3; generalize (isId m.version) = z4; generalize (isId m.note) = z5; generalize (inR m.kind 1 5) = z6; generalize (inR m.value 0 1000) = z7; generalize (decide (m.value ≤ 2)) = z8; revert z0 z1 z2 z3 z4 z5 z6 z7 z8; decide)
set_option maxHeartbeats 1600000 in
set_option maxRecDepth 20000 in
theorem mvalid2 (m : Jo.Mark) (h : m.layer = 2) (ht : m.text.length ≤ 9223372036854775807) : PCall Tryz.prog 71 [.agg (Go.Proofs.YtbneeinknlddaaaGreat.encM m)] (.b (markOk m)) := by
 have hlk : lk [((1 : Int), (1 : Nat)), (2, 2), (3, 3), (4, 4)] m.layer = some 2 := by rw [h]; rfl
 have hf := lay2_spec m.who
 have hby : byOk m.layer m.who = byOk 2 m.who := by rw [h]
 refine PCall.body Tryz.func71 rfl rfl Tryz.ntmps71 rfl rfl ?_
 repeat' (first | refine aoQ rfl rfl rfl (fun hg => by exact std0) (by exact rfl) ?_ | refine sqW ?_ | refine rgK (fun K' hK => ?_) | (refine aoN (hK _ _ ?_); clear hK K') | refine aoE (bxW rfl rfl rfl rfl rfl tI rfl rfl ?_))
 refine AWP.drawY (fun k => match k with | 0 => [.var (Go.Proofs.YtbneeinknlddaaaGreat.encM m)] | 1 => [.var (Go.Proofs.YtbneeinknlddaaaGreat.encM m), .var [.prim .nilFunc, .prim .nilFunc]] | _ => [.var (Go.Proofs.YtbneeinknlddaaaGreat.encM m), .var [.fn (.func 120) [] [], .fn (.func 121) [] []]]) rfl (by kernel_rfl) (by decide +kernel) rfl (by decide +kernel) (fun K' hK => ?_)
 repeat' (first
  | refine yqQ (a := 0) (b := 0) rfl (by decide +kernel) (by decide +kernel) rfl rfl rfl (fun k h1 h2 hg => by (have hk : k = 0 := (by omega)); (rcases hk with rfl) <;> (first | exact std0 | exact pcW (layers_spec) rfl rfl nd rfl nds | exact PRun.lookupV (ek := ekI) (ev := layF) (zv := 0) hlk (keyLaw_int (LOk.of (tabOk.get rfl))) (LOk.of (tabOk.get rfl)) (LOk.of (tabOk.get rfl)) rfl rfl (Rd.w rfl nd) (Or.inl rfl) (Rd.w rfl nd) rfl | exact std1)) (by exact rfl) ?_
  | refine yqQ (a := 0) (b := 1) rfl (by decide +kernel) (by decide +kernel) rfl rfl rfl (fun k h1 h2 hg => by (have hk : k = 0 ∨ k = 1 := (by omega)); (rcases hk with rfl | rfl) <;> (first | exact std0 | exact pcW (layers_spec) rfl rfl nd rfl nds | exact PRun.lookupV (ek := ekI) (ev := layF) (zv := 0) hlk (keyLaw_int (LOk.of (tabOk.get rfl))) (LOk.of (tabOk.get rfl)) (LOk.of (tabOk.get rfl)) rfl rfl (Rd.w rfl nd) (Or.inl rfl) (Rd.w rfl nd) rfl | exact std1)) (by exact rfl) ?_
  | refine yqQ (a := 1) (b := 1) rfl (by decide +kernel) (by decide +kernel) rfl rfl rfl (fun k h1 h2 hg => by (have hk : k = 1 := (by omega)); (rcases hk with rfl) <;> (first | exact std0 | exact pcW (layers_spec) rfl rfl nd rfl nds | exact PRun.lookupV (ek := ekI) (ev := layF) (zv := 0) hlk (keyLaw_int (LOk.of (tabOk.get rfl))) (LOk.of (tabOk.get rfl)) (LOk.of (tabOk.get rfl)) rfl rfl (Rd.w rfl nd) (Or.inl rfl) (Rd.w rfl nd) rfl | exact std1)) (by exact rfl) ?_
  | refine yqQ (a := 0) (b := 2) rfl (by decide +kernel) (by decide +kernel) rfl rfl rfl (fun k h1 h2 hg => by (have hk : k = 0 ∨ k = 1 ∨ k = 2 := (by omega)); (rcases hk with rfl | rfl | rfl) <;> (first | exact std0 | exact pcW (layers_spec) rfl rfl nd rfl nds | exact PRun.lookupV (ek := ekI) (ev := layF) (zv := 0) hlk (keyLaw_int (LOk.of (tabOk.get rfl))) (LOk.of (tabOk.get rfl)) (LOk.of (tabOk.get rfl)) rfl rfl (Rd.w rfl nd) (Or.inl rfl) (Rd.w rfl nd) rfl | exact std1)) (by exact rfl) ?_
  | refine yqQ (a := 1) (b := 2) rfl (by decide +kernel) (by decide +kernel) rfl rfl rfl (fun k h1 h2 hg => by (have hk : k = 1 ∨ k = 2 := (by omega)); (rcases hk with rfl | rfl) <;> (first | exact std0 | exact pcW (layers_spec) rfl rfl nd rfl nds | exact PRun.lookupV (ek := ekI) (ev := layF) (zv := 0) hlk (keyLaw_int (LOk.of (tabOk.get rfl))) (LOk.of (tabOk.get rfl)) (LOk.of (tabOk.get rfl)) rfl rfl (Rd.w rfl nd) (Or.inl rfl) (Rd.w rfl nd) rfl | exact std1)) (by exact rfl) ?_
  | refine yqQ (a := 2) (b := 2) rfl (by decide +kernel) (by decide +kernel) rfl rfl rfl (fun k h1 h2 hg => by (have hk : k = 2 := (by omega)); (rcases hk with rfl) <;> (first | exact std0 | exact pcW (layers_spec) rfl rfl nd rfl nds | exact PRun.lookupV (ek := ekI) (ev := layF) (zv := 0) hlk (keyLaw_int (LOk.of (tabOk.get rfl))) (LOk.of (tabOk.get rfl)) (LOk.of (tabOk.get rfl)) rfl rfl (Rd.w rfl nd) (Or.inl rfl) (Rd.w rfl nd) rfl | exact std1)) (by exact rfl) ?_)
 refine YQ.e (v := .ptr 1 0) (d := some 3) rfl rfl rfl ?_ ?_
 · intro env' he
   exact alW tabOk rfl rfl rfl rfl rfl rfl ⟨rfl, rfl⟩
 repeat' (first
  | refine yqQ (a := 0) (b := 0) rfl (by decide +kernel) (by decide +kernel) rfl rfl rfl (fun k h1 h2 hg => by (have hk : k = 0 := (by omega)); (rcases hk with rfl) <;> (first | exact std0 | exact std1)) (by exact rfl) ?_
  | refine yqQ (a := 0) (b := 1) rfl (by decide +kernel) (by decide +kernel) rfl rfl rfl (fun k h1 h2 hg => by (have hk : k = 0 ∨ k = 1 := (by omega)); (rcases hk with rfl | rfl) <;> (first | exact std0 | exact std1)) (by exact rfl) ?_
  | refine yqQ (a := 1) (b := 1) rfl (by decide +kernel) (by decide +kernel) rfl rfl rfl (fun k h1 h2 hg => by (have hk : k = 1 := (by omega)); (rcases hk with rfl) <;> (first | exact std0 | exact std1)) (by exact rfl) ?_
  | refine yqQ (a := 0) (b := 2) rfl (by decide +kernel) (by decide +kernel) rfl rfl rfl (fun k h1 h2 hg => by (have hk : k = 0 ∨ k = 1 ∨ k = 2 := (by omega)); (rcases hk with rfl | rfl | rfl) <;> (first | exact std0 | exact std1)) (by exact rfl) ?_
  | refine yqQ (a := 1) (b := 2) rfl (by decide +kernel) (by decide +kernel) rfl rfl rfl (fun k h1 h2 hg => by (have hk : k = 1 ∨ k = 2 := (by omega)); (rcases hk with rfl | rfl) <;> (first | exact std0 | exact std1)) (by exact rfl) ?_
  | refine yqQ (a := 2) (b := 2) rfl (by decide +kernel) (by decide +kernel) rfl rfl rfl (fun k h1 h2 hg => by (have hk : k = 2 := (by omega)); (rcases hk with rfl) <;> (first | exact std0 | exact std1)) (by exact rfl) ?_)
 refine YQ.e (v := .any) (d := none) rfl rfl rfl ?_ ?_
 · intro env' he
   exact stW tabOk rfl rfl ((rdv_congr (he 3 (by decide +kernel))).trans rfl) (by rw [rdn_congr (he 3 (by decide +kernel))]; exact tI) rfl ((rdv_congr (he 12 (by decide +kernel))).trans rfl) (by rw [rdn_congr (he 12 (by decide +kernel))]; exact tI) rfl rfl rfl rfl rfl rfl rfl ⟨rfl, rfl⟩
 repeat' (first
  | refine yqQ (a := 0) (b := 0) rfl (by decide +kernel) (by decide +kernel) rfl rfl rfl (fun k h1 h2 hg => by (have hk : k = 0 := (by omega)); (rcases hk with rfl) <;> (first | exact std0 | exact std1)) (by exact rfl) ?_
  | refine yqQ (a := 0) (b := 1) rfl (by decide +kernel) (by decide +kernel) rfl rfl rfl (fun k h1 h2 hg => by (have hk : k = 0 ∨ k = 1 := (by omega)); (rcases hk with rfl | rfl) <;> (first | exact std0 | exact std1)) (by exact rfl) ?_
  | refine yqQ (a := 1) (b := 1) rfl (by decide +kernel) (by decide +kernel) rfl rfl rfl (fun k h1 h2 hg => by (have hk : k = 1 := (by omega)); (rcases hk with rfl) <;> (first | exact std0 | exact std1)) (by exact rfl) ?_
  | refine yqQ (a := 0) (b := 2) rfl (by decide +kernel) (by decide +kernel) rfl rfl rfl (fun k h1 h2 hg => by (have hk : k = 0 ∨ k = 1 ∨ k = 2 := (by omega)); (rcases hk with rfl | rfl | rfl) <;> (first | exact std0 | exact std1)) (by exact rfl) ?_
  | refine yqQ (a := 1) (b := 2) rfl (by decide +kernel) (by decide +kernel) rfl rfl rfl (fun k h1 h2 hg => by (have hk : k = 1 ∨ k = 2 := (by omega)); (rcases hk with rfl | rfl) <;> (first | exact std0 | exact std1)) (by exact rfl) ?_
  | refine yqQ (a := 2) (b := 2) rfl (by decide +kernel) (by decide +kernel) rfl rfl rfl (fun k h1 h2 hg => by (have hk : k = 2 := (by omega)); (rcases hk with rfl) <;> (first | exact std0 | exact std1)) (by exact rfl) ?_)
 refine YQ.nil (hK _ _ ?_)
 clear hK K'
 refine AWP.keep [(1, .ptr 0 0), (3, .ptr 1 0), (4, .b true)] ⟨rfl, rfl, rfl, tI⟩ ?_
 show AWP _ _ _ _ _ [.var (Go.Proofs.YtbneeinknlddaaaGreat.encM m), .var [.fn (.func 120) [] [], .fn (.func 121) [] []]]
 clear hlk
 have hsz : (⟨m.text.toArray⟩ : ByteArray).size = m.text.length := by simp [ByteArray.size]
 have hw := contains_spec (runesS ⟨m.text.toArray⟩) (by have := runesN_len ⟨m.text.toArray⟩ (⟨m.text.toArray⟩ : ByteArray).size 0; rw [hsz] at this; unfold runesS; rw [hsz]; omega)
 repeat' (first | refine aoQ rfl rfl rfl (fun hg => by first | exact std0 | exact pcW (hf) rfl rfl nd rfl nds | exact pcW (mid_spec _) rfl rfl nd rfl nds | exact pcW (mwithin_spec _ _ _) rfl rfl nd rfl nds | exact PRun.strRunes tabOk rfl rfl nd rfl rfl rfl (by rw [hsz]; first | (have h9 : ((_ && decide ((((⟨m.text.toArray⟩ : ByteArray).size : Nat) : Int) ≤ 200)) == true) = true := hg; rw [hsz] at h9; simp at h9; omega) | (have h9 : (_ && decide ((((⟨m.text.toArray⟩ : ByteArray).size : Nat) : Int) ≤ 200)) = true := hg; rw [hsz] at h9; simp at h9; omega)) | exact pcW (hw) rfl rfl nd rfl nds) (by exact rfl) ?_ | refine sqW ?_ | refine rgK (fun K' hK => ?_) | (refine aoN (hK _ _ ?_); clear hK K') | refine cdN rfl tI (fun hc => ?_) (fun hc => ?_) | refine skW ?_ | refine rtW ?_)
 · refine ⟨.inr rfl, Ent.b ?_⟩
   unfold markOk
   rw [hby]
   clear hf hw
   (revert hc; generalize (textOk m.text) = z0; generalize (byOk 2 m.who) = z1; generalize (isId m.id) = z2; generalize (isId m.version) = z3; generalize (isId m.note) = z4; generalize (inR m.kind 1 5) = z5; generalize (inR m.value 0 1000) = z6; generalize (m.kind != 1 || decide (m.value ≤ 2)) = z7; revert z0 z1 z2 z3 z4 z5 z6 z7; decide)
 · have hk : m.kind = 1 := eq_of_beq hc
   rename_i hg
   refine ⟨.inr rfl, Ent.b ?_⟩
   unfold markOk
   rw [hby, textOk_runes]
   refine Eq.trans (b := ((inR m.value 0 2 && decide ((((⟨m.text.toArray⟩ : ByteArray).size : Nat) : Int) ≤ 200)) && !(runesS ⟨m.text.toArray⟩).any badR)) rfl ?_
   rw [hsz, inR_2, len200, hk]
   rw [hk] at hg
   clear hf hw hc
   show _ = ((decide (m.text.length ≤ 200) && !(runesS ⟨m.text.toArray⟩).any badR) && byOk 2 m.who && isId m.id && isId m.version && isId m.note && inR 1 1 5 && inR m.value 0 1000 && (false || decide (m.value ≤ 2)))
   (revert hg; generalize ((runesS ⟨m.text.toArray⟩).any badR) = z0; generalize (decide (m.text.length ≤ 200)) = z1; generalize (byOk 2 m.who) = z2; generalize (isId m.id) = z3; generalize (isId m.version) = z4; generalize (isId m.note) = z5; generalize (inR 1 1 5) = z6; generalize (inR m.value 0 1000) = z7; generalize (decide (m.value ≤ 2)) = z8; revert z0 z1 z2 z3 z4 z5 z6 z7 z8; decide)
 · rename_i hg
   refine ⟨.inr rfl, Ent.b ?_⟩
   unfold markOk
   rw [hby, textOk_runes]
   refine Eq.trans (b := ((inR m.value 0 1000 && decide ((((⟨m.text.toArray⟩ : ByteArray).size : Nat) : Int) ≤ 200)) && !(runesS ⟨m.text.toArray⟩).any badR)) rfl ?_
   have hk : (m.kind != 1) = true := by unfold bne; rw [hc]; rfl
   rw [hsz, len200, hk]
   clear hf hw hc
   show _ = ((decide (m.text.length ≤ 200) && !(runesS ⟨m.text.toArray⟩).any badR) && byOk 2 m.who && isId m.id && isId m.version && isId m.note && inR m.kind 1 5 && inR m.value 0 1000 && (true || decide (m.value ≤ 2)))
   (revert hg; generalize ((runesS ⟨m.text.toArray⟩).any badR) = z0; generalize (decide (m.text.length ≤ 200)) = z1; generalize (byOk 2 m.who) = z2; generalize (isId m.id) = z3; generalize (isId m.version) = z4; generalize (isId m.note) = z5; generalize (inR m.kind 1 5) = z6; generalize (inR m.value 0 1000) = z7; generalize (decide (m.value ≤ 2)) = z8; revert z0 z1 z2 z3 z4 z5 z6 z7 z8; decide)
set_option maxHeartbeats 1600000 in
set_option maxRecDepth 20000 in
theorem mvalid3 (m : Jo.Mark) (h : m.layer = 3) (ht : m.text.length ≤ 9223372036854775807) : PCall Tryz.prog 71 [.agg (Go.Proofs.YtbneeinknlddaaaGreat.encM m)] (.b (markOk m)) := by
 have hlk : lk [((1 : Int), (1 : Nat)), (2, 2), (3, 3), (4, 4)] m.layer = some 3 := by rw [h]; rfl
 have hf := lay4_spec m.who
 have hby : byOk m.layer m.who = byOk 3 m.who := by rw [h]
 refine PCall.body Tryz.func71 rfl rfl Tryz.ntmps71 rfl rfl ?_
 repeat' (first | refine aoQ rfl rfl rfl (fun hg => by exact std0) (by exact rfl) ?_ | refine sqW ?_ | refine rgK (fun K' hK => ?_) | (refine aoN (hK _ _ ?_); clear hK K') | refine aoE (bxW rfl rfl rfl rfl rfl tI rfl rfl ?_))
 refine AWP.drawY (fun k => match k with | 0 => [.var (Go.Proofs.YtbneeinknlddaaaGreat.encM m)] | 1 => [.var (Go.Proofs.YtbneeinknlddaaaGreat.encM m), .var [.prim .nilFunc, .prim .nilFunc]] | _ => [.var (Go.Proofs.YtbneeinknlddaaaGreat.encM m), .var [.fn (.func 122) [] [], .fn (.func 123) [] []]]) rfl (by kernel_rfl) (by decide +kernel) rfl (by decide +kernel) (fun K' hK => ?_)
 repeat' (first
  | refine yqQ (a := 0) (b := 0) rfl (by decide +kernel) (by decide +kernel) rfl rfl rfl (fun k h1 h2 hg => by (have hk : k = 0 := (by omega)); (rcases hk with rfl) <;> (first | exact std0 | exact pcW (layers_spec) rfl rfl nd rfl nds | exact PRun.lookupV (ek := ekI) (ev := layF) (zv := 0) hlk (keyLaw_int (LOk.of (tabOk.get rfl))) (LOk.of (tabOk.get rfl)) (LOk.of (tabOk.get rfl)) rfl rfl (Rd.w rfl nd) (Or.inl rfl) (Rd.w rfl nd) rfl | exact std1)) (by exact rfl) ?_
  | refine yqQ (a := 0) (b := 1) rfl (by decide +kernel) (by decide +kernel) rfl rfl rfl (fun k h1 h2 hg => by (have hk : k = 0 ∨ k = 1 := (by omega)); (rcases hk with rfl | rfl) <;> (first | exact std0 | exact pcW (layers_spec) rfl rfl nd rfl nds | exact PRun.lookupV (ek := ekI) (ev := layF) (zv := 0) hlk (keyLaw_int (LOk.of (tabOk.get rfl))) (LOk.of (tabOk.get rfl)) (LOk.of (tabOk.get rfl)) rfl rfl (Rd.w rfl nd) (Or.inl rfl) (Rd.w rfl nd) rfl | exact std1)) (by exact rfl) ?_
  | refine yqQ (a := 1) (b := 1) rfl (by decide +kernel) (by decide +kernel) rfl rfl rfl (fun k h1 h2 hg => by (have hk : k = 1 := (by omega)); (rcases hk with rfl) <;> (first | exact std0 | exact pcW (layers_spec) rfl rfl nd rfl nds | exact PRun.lookupV (ek := ekI) (ev := layF) (zv := 0) hlk (keyLaw_int (LOk.of (tabOk.get rfl))) (LOk.of (tabOk.get rfl)) (LOk.of (tabOk.get rfl)) rfl rfl (Rd.w rfl nd) (Or.inl rfl) (Rd.w rfl nd) rfl | exact std1)) (by exact rfl) ?_
  | refine yqQ (a := 0) (b := 2) rfl (by decide +kernel) (by decide +kernel) rfl rfl rfl (fun k h1 h2 hg => by (have hk : k = 0 ∨ k = 1 ∨ k = 2 := (by omega)); (rcases hk with rfl | rfl | rfl) <;> (first | exact std0 | exact pcW (layers_spec) rfl rfl nd rfl nds | exact PRun.lookupV (ek := ekI) (ev := layF) (zv := 0) hlk (keyLaw_int (LOk.of (tabOk.get rfl))) (LOk.of (tabOk.get rfl)) (LOk.of (tabOk.get rfl)) rfl rfl (Rd.w rfl nd) (Or.inl rfl) (Rd.w rfl nd) rfl | exact std1)) (by exact rfl) ?_
  | refine yqQ (a := 1) (b := 2) rfl (by decide +kernel) (by decide +kernel) rfl rfl rfl (fun k h1 h2 hg => by (have hk : k = 1 ∨ k = 2 := (by omega)); (rcases hk with rfl | rfl) <;> (first | exact std0 | exact pcW (layers_spec) rfl rfl nd rfl nds | exact PRun.lookupV (ek := ekI) (ev := layF) (zv := 0) hlk (keyLaw_int (LOk.of (tabOk.get rfl))) (LOk.of (tabOk.get rfl)) (LOk.of (tabOk.get rfl)) rfl rfl (Rd.w rfl nd) (Or.inl rfl) (Rd.w rfl nd) rfl | exact std1)) (by exact rfl) ?_
  | refine yqQ (a := 2) (b := 2) rfl (by decide +kernel) (by decide +kernel) rfl rfl rfl (fun k h1 h2 hg => by (have hk : k = 2 := (by omega)); (rcases hk with rfl) <;> (first | exact std0 | exact pcW (layers_spec) rfl rfl nd rfl nds | exact PRun.lookupV (ek := ekI) (ev := layF) (zv := 0) hlk (keyLaw_int (LOk.of (tabOk.get rfl))) (LOk.of (tabOk.get rfl)) (LOk.of (tabOk.get rfl)) rfl rfl (Rd.w rfl nd) (Or.inl rfl) (Rd.w rfl nd) rfl | exact std1)) (by exact rfl) ?_)
 refine YQ.e (v := .ptr 1 0) (d := some 3) rfl rfl rfl ?_ ?_
 · intro env' he
   exact alW tabOk rfl rfl rfl rfl rfl rfl ⟨rfl, rfl⟩
 repeat' (first
  | refine yqQ (a := 0) (b := 0) rfl (by decide +kernel) (by decide +kernel) rfl rfl rfl (fun k h1 h2 hg => by (have hk : k = 0 := (by omega)); (rcases hk with rfl) <;> (first | exact std0 | exact std1)) (by exact rfl) ?_
  | refine yqQ (a := 0) (b := 1) rfl (by decide +kernel) (by decide +kernel) rfl rfl rfl (fun k h1 h2 hg => by (have hk : k = 0 ∨ k = 1 := (by omega)); (rcases hk with rfl | rfl) <;> (first | exact std0 | exact std1)) (by exact rfl) ?_
  | refine yqQ (a := 1) (b := 1) rfl (by decide +kernel) (by decide +kernel) rfl rfl rfl (fun k h1 h2 hg => by (have hk : k = 1 := (by omega)); (rcases hk with rfl) <;> (first | exact std0 | exact std1)) (by exact rfl) ?_
  | refine yqQ (a := 0) (b := 2) rfl (by decide +kernel) (by decide +kernel) rfl rfl rfl (fun k h1 h2 hg => by (have hk : k = 0 ∨ k = 1 ∨ k = 2 := (by omega)); (rcases hk with rfl | rfl | rfl) <;> (first | exact std0 | exact std1)) (by exact rfl) ?_
  | refine yqQ (a := 1) (b := 2) rfl (by decide +kernel) (by decide +kernel) rfl rfl rfl (fun k h1 h2 hg => by (have hk : k = 1 ∨ k = 2 := (by omega)); (rcases hk with rfl | rfl) <;> (first | exact std0 | exact std1)) (by exact rfl) ?_
  | refine yqQ (a := 2) (b := 2) rfl (by decide +kernel) (by decide +kernel) rfl rfl rfl (fun k h1 h2 hg => by (have hk : k = 2 := (by omega)); (rcases hk with rfl) <;> (first | exact std0 | exact std1)) (by exact rfl) ?_)
 refine YQ.e (v := .any) (d := none) rfl rfl rfl ?_ ?_
 · intro env' he
   exact stW tabOk rfl rfl ((rdv_congr (he 3 (by decide +kernel))).trans rfl) (by rw [rdn_congr (he 3 (by decide +kernel))]; exact tI) rfl ((rdv_congr (he 12 (by decide +kernel))).trans rfl) (by rw [rdn_congr (he 12 (by decide +kernel))]; exact tI) rfl rfl rfl rfl rfl rfl rfl ⟨rfl, rfl⟩
 repeat' (first
  | refine yqQ (a := 0) (b := 0) rfl (by decide +kernel) (by decide +kernel) rfl rfl rfl (fun k h1 h2 hg => by (have hk : k = 0 := (by omega)); (rcases hk with rfl) <;> (first | exact std0 | exact std1)) (by exact rfl) ?_
  | refine yqQ (a := 0) (b := 1) rfl (by decide +kernel) (by decide +kernel) rfl rfl rfl (fun k h1 h2 hg => by (have hk : k = 0 ∨ k = 1 := (by omega)); (rcases hk with rfl | rfl) <;> (first | exact std0 | exact std1)) (by exact rfl) ?_
  | refine yqQ (a := 1) (b := 1) rfl (by decide +kernel) (by decide +kernel) rfl rfl rfl (fun k h1 h2 hg => by (have hk : k = 1 := (by omega)); (rcases hk with rfl) <;> (first | exact std0 | exact std1)) (by exact rfl) ?_
  | refine yqQ (a := 0) (b := 2) rfl (by decide +kernel) (by decide +kernel) rfl rfl rfl (fun k h1 h2 hg => by (have hk : k = 0 ∨ k = 1 ∨ k = 2 := (by omega)); (rcases hk with rfl | rfl | rfl) <;> (first | exact std0 | exact std1)) (by exact rfl) ?_
  | refine yqQ (a := 1) (b := 2) rfl (by decide +kernel) (by decide +kernel) rfl rfl rfl (fun k h1 h2 hg => by (have hk : k = 1 ∨ k = 2 := (by omega)); (rcases hk with rfl | rfl) <;> (first | exact std0 | exact std1)) (by exact rfl) ?_
  | refine yqQ (a := 2) (b := 2) rfl (by decide +kernel) (by decide +kernel) rfl rfl rfl (fun k h1 h2 hg => by (have hk : k = 2 := (by omega)); (rcases hk with rfl) <;> (first | exact std0 | exact std1)) (by exact rfl) ?_)
 refine YQ.nil (hK _ _ ?_)
 clear hK K'
 refine AWP.keep [(1, .ptr 0 0), (3, .ptr 1 0), (4, .b true)] ⟨rfl, rfl, rfl, tI⟩ ?_
 show AWP _ _ _ _ _ [.var (Go.Proofs.YtbneeinknlddaaaGreat.encM m), .var [.fn (.func 122) [] [], .fn (.func 123) [] []]]
 clear hlk
 have hsz : (⟨m.text.toArray⟩ : ByteArray).size = m.text.length := by simp [ByteArray.size]
 have hw := contains_spec (runesS ⟨m.text.toArray⟩) (by have := runesN_len ⟨m.text.toArray⟩ (⟨m.text.toArray⟩ : ByteArray).size 0; rw [hsz] at this; unfold runesS; rw [hsz]; omega)
 repeat' (first | refine aoQ rfl rfl rfl (fun hg => by first | exact std0 | exact pcW (hf) rfl rfl nd rfl nds | exact pcW (mid_spec _) rfl rfl nd rfl nds | exact pcW (mwithin_spec _ _ _) rfl rfl nd rfl nds | exact PRun.strRunes tabOk rfl rfl nd rfl rfl rfl (by rw [hsz]; first | (have h9 : ((_ && decide ((((⟨m.text.toArray⟩ : ByteArray).size : Nat) : Int) ≤ 200)) == true) = true := hg; rw [hsz] at h9; simp at h9; omega) | (have h9 : (_ && decide ((((⟨m.text.toArray⟩ : ByteArray).size : Nat) : Int) ≤ 200)) = true := hg; rw [hsz] at h9; simp at h9; omega)) | exact pcW (hw) rfl rfl nd rfl nds) (by exact rfl) ?_ | refine sqW ?_ | refine rgK (fun K' hK => ?_) | (refine aoN (hK _ _ ?_); clear hK K') | refine cdN rfl tI (fun hc => ?_) (fun hc => ?_) | refine skW ?_ | refine rtW ?_)
 · refine ⟨.inr rfl, Ent.b ?_⟩
   unfold markOk
   rw [hby]
   clear hf hw
   (revert hc; generalize (textOk m.text) = z0; generalize (byOk 3 m.who) = z1; generalize (isId m.id) = z2; generalize (isId m.version) = z3; generalize (isId m.note) = z4; generalize (inR m.kind 1 5) = z5; generalize (inR m.value 0 1000) = z6; generalize (m.kind != 1 || decide (m.value ≤ 2)) = z7; revert z0 z1 z2 z3 z4 z5 z6 z7; decide)
 · have hk : m.kind = 1 := eq_of_beq hc
   rename_i hg
   refine ⟨.inr rfl, Ent.b ?_⟩
   unfold markOk
   rw [hby, textOk_runes]
   refine Eq.trans (b := ((inR m.value 0 2 && decide ((((⟨m.text.toArray⟩ : ByteArray).size : Nat) : Int) ≤ 200)) && !(runesS ⟨m.text.toArray⟩).any badR)) rfl ?_
   rw [hsz, inR_2, len200, hk]
   rw [hk] at hg
   clear hf hw hc
   show _ = ((decide (m.text.length ≤ 200) && !(runesS ⟨m.text.toArray⟩).any badR) && byOk 3 m.who && isId m.id && isId m.version && isId m.note && inR 1 1 5 && inR m.value 0 1000 && (false || decide (m.value ≤ 2)))
   (revert hg; generalize ((runesS ⟨m.text.toArray⟩).any badR) = z0; generalize (decide (m.text.length ≤ 200)) = z1; generalize (byOk 3 m.who) = z2; generalize (isId m.id) = z3; generalize (isId m.version) = z4; generalize (isId m.note) = z5; generalize (inR 1 1 5) = z6; generalize (inR m.value 0 1000) = z7; generalize (decide (m.value ≤ 2)) = z8; revert z0 z1 z2 z3 z4 z5 z6 z7 z8; decide)
 · rename_i hg
   refine ⟨.inr rfl, Ent.b ?_⟩
   unfold markOk
   rw [hby, textOk_runes]
   refine Eq.trans (b := ((inR m.value 0 1000 && decide ((((⟨m.text.toArray⟩ : ByteArray).size : Nat) : Int) ≤ 200)) && !(runesS ⟨m.text.toArray⟩).any badR)) rfl ?_
   have hk : (m.kind != 1) = true := by unfold bne; rw [hc]; rfl
   rw [hsz, len200, hk]
   clear hf hw hc
   show _ = ((decide (m.text.length ≤ 200) && !(runesS ⟨m.text.toArray⟩).any badR) && byOk 3 m.who && isId m.id && isId m.version && isId m.note && inR m.kind 1 5 && inR m.value 0 1000 && (true || decide (m.value ≤ 2)))
   (revert hg; generalize ((runesS ⟨m.text.toArray⟩).any badR) = z0; generalize (decide (m.text.length ≤ 200)) = z1; generalize (byOk 3 m.who) = z2; generalize (isId m.id) = z3; generalize (isId m.version) = z4; generalize (isId m.note) = z5; generalize (inR m.kind 1 5) = z6; generalize (inR m.value 0 1000) = z7; generalize (decide (m.value ≤ 2)) = z8; revert z0 z1 z2 z3 z4 z5 z6 z7 z8; decide)
set_option maxHeartbeats 1600000 in
set_option maxRecDepth 20000 in
theorem mvalid4 (m : Jo.Mark) (h : m.layer = 4) (ht : m.text.length ≤ 9223372036854775807) : PCall Tryz.prog 71 [.agg (Go.Proofs.YtbneeinknlddaaaGreat.encM m)] (.b (markOk m)) := by
 have hlk : lk [((1 : Int), (1 : Nat)), (2, 2), (3, 3), (4, 4)] m.layer = some 4 := by rw [h]; rfl
 have hf := lay6_spec m.who
 have hby : byOk m.layer m.who = byOk 4 m.who := by rw [h]
 refine PCall.body Tryz.func71 rfl rfl Tryz.ntmps71 rfl rfl ?_
 repeat' (first | refine aoQ rfl rfl rfl (fun hg => by exact std0) (by exact rfl) ?_ | refine sqW ?_ | refine rgK (fun K' hK => ?_) | (refine aoN (hK _ _ ?_); clear hK K') | refine aoE (bxW rfl rfl rfl rfl rfl tI rfl rfl ?_))
 refine AWP.drawY (fun k => match k with | 0 => [.var (Go.Proofs.YtbneeinknlddaaaGreat.encM m)] | 1 => [.var (Go.Proofs.YtbneeinknlddaaaGreat.encM m), .var [.prim .nilFunc, .prim .nilFunc]] | _ => [.var (Go.Proofs.YtbneeinknlddaaaGreat.encM m), .var [.fn (.func 124) [] [], .fn (.func 125) [] []]]) rfl (by kernel_rfl) (by decide +kernel) rfl (by decide +kernel) (fun K' hK => ?_)
 repeat' (first
  | refine yqQ (a := 0) (b := 0) rfl (by decide +kernel) (by decide +kernel) rfl rfl rfl (fun k h1 h2 hg => by (have hk : k = 0 := (by omega)); (rcases hk with rfl) <;> (first | exact std0 | exact pcW (layers_spec) rfl rfl nd rfl nds | exact PRun.lookupV (ek := ekI) (ev := layF) (zv := 0) hlk (keyLaw_int (LOk.of (tabOk.get rfl))) (LOk.of (tabOk.get rfl)) (LOk.of (tabOk.get rfl)) rfl rfl (Rd.w rfl nd) (Or.inl rfl) (Rd.w rfl nd) rfl | exact std1)) (by exact rfl) ?_
  | refine yqQ (a := 0) (b := 1) rfl (by decide +kernel) (by decide +kernel) rfl rfl rfl (fun k h1 h2 hg => by (have hk : k = 0 ∨ k = 1 := (by omega)); (rcases hk with rfl | rfl) <;> (first | exact std0 | exact pcW (layers_spec) rfl rfl nd rfl nds | exact PRun.lookupV (ek := ekI) (ev := layF) (zv := 0) hlk (keyLaw_int (LOk.of (tabOk.get rfl))) (LOk.of (tabOk.get rfl)) (LOk.of (tabOk.get rfl)) rfl rfl (Rd.w rfl nd) (Or.inl rfl) (Rd.w rfl nd) rfl | exact std1)) (by exact rfl) ?_
  | refine yqQ (a := 1) (b := 1) rfl (by decide +kernel) (by decide +kernel) rfl rfl rfl (fun k h1 h2 hg => by (have hk : k = 1 := (by omega)); (rcases hk with rfl) <;> (first | exact std0 | exact pcW (layers_spec) rfl rfl nd rfl nds | exact PRun.lookupV (ek := ekI) (ev := layF) (zv := 0) hlk (keyLaw_int (LOk.of (tabOk.get rfl))) (LOk.of (tabOk.get rfl)) (LOk.of (tabOk.get rfl)) rfl rfl (Rd.w rfl nd) (Or.inl rfl) (Rd.w rfl nd) rfl | exact std1)) (by exact rfl) ?_
  | refine yqQ (a := 0) (b := 2) rfl (by decide +kernel) (by decide +kernel) rfl rfl rfl (fun k h1 h2 hg => by (have hk : k = 0 ∨ k = 1 ∨ k = 2 := (by omega)); (rcases hk with rfl | rfl | rfl) <;> (first | exact std0 | exact pcW (layers_spec) rfl rfl nd rfl nds | exact PRun.lookupV (ek := ekI) (ev := layF) (zv := 0) hlk (keyLaw_int (LOk.of (tabOk.get rfl))) (LOk.of (tabOk.get rfl)) (LOk.of (tabOk.get rfl)) rfl rfl (Rd.w rfl nd) (Or.inl rfl) (Rd.w rfl nd) rfl | exact std1)) (by exact rfl) ?_
  | refine yqQ (a := 1) (b := 2) rfl (by decide +kernel) (by decide +kernel) rfl rfl rfl (fun k h1 h2 hg => by (have hk : k = 1 ∨ k = 2 := (by omega)); (rcases hk with rfl | rfl) <;> (first | exact std0 | exact pcW (layers_spec) rfl rfl nd rfl nds | exact PRun.lookupV (ek := ekI) (ev := layF) (zv := 0) hlk (keyLaw_int (LOk.of (tabOk.get rfl))) (LOk.of (tabOk.get rfl)) (LOk.of (tabOk.get rfl)) rfl rfl (Rd.w rfl nd) (Or.inl rfl) (Rd.w rfl nd) rfl | exact std1)) (by exact rfl) ?_
  | refine yqQ (a := 2) (b := 2) rfl (by decide +kernel) (by decide +kernel) rfl rfl rfl (fun k h1 h2 hg => by (have hk : k = 2 := (by omega)); (rcases hk with rfl) <;> (first | exact std0 | exact pcW (layers_spec) rfl rfl nd rfl nds | exact PRun.lookupV (ek := ekI) (ev := layF) (zv := 0) hlk (keyLaw_int (LOk.of (tabOk.get rfl))) (LOk.of (tabOk.get rfl)) (LOk.of (tabOk.get rfl)) rfl rfl (Rd.w rfl nd) (Or.inl rfl) (Rd.w rfl nd) rfl | exact std1)) (by exact rfl) ?_)
 refine YQ.e (v := .ptr 1 0) (d := some 3) rfl rfl rfl ?_ ?_
 · intro env' he
   exact alW tabOk rfl rfl rfl rfl rfl rfl ⟨rfl, rfl⟩
 repeat' (first
  | refine yqQ (a := 0) (b := 0) rfl (by decide +kernel) (by decide +kernel) rfl rfl rfl (fun k h1 h2 hg => by (have hk : k = 0 := (by omega)); (rcases hk with rfl) <;> (first | exact std0 | exact std1)) (by exact rfl) ?_
  | refine yqQ (a := 0) (b := 1) rfl (by decide +kernel) (by decide +kernel) rfl rfl rfl (fun k h1 h2 hg => by (have hk : k = 0 ∨ k = 1 := (by omega)); (rcases hk with rfl | rfl) <;> (first | exact std0 | exact std1)) (by exact rfl) ?_
  | refine yqQ (a := 1) (b := 1) rfl (by decide +kernel) (by decide +kernel) rfl rfl rfl (fun k h1 h2 hg => by (have hk : k = 1 := (by omega)); (rcases hk with rfl) <;> (first | exact std0 | exact std1)) (by exact rfl) ?_
  | refine yqQ (a := 0) (b := 2) rfl (by decide +kernel) (by decide +kernel) rfl rfl rfl (fun k h1 h2 hg => by (have hk : k = 0 ∨ k = 1 ∨ k = 2 := (by omega)); (rcases hk with rfl | rfl | rfl) <;> (first | exact std0 | exact std1)) (by exact rfl) ?_
  | refine yqQ (a := 1) (b := 2) rfl (by decide +kernel) (by decide +kernel) rfl rfl rfl (fun k h1 h2 hg => by (have hk : k = 1 ∨ k = 2 := (by omega)); (rcases hk with rfl | rfl) <;> (first | exact std0 | exact std1)) (by exact rfl) ?_
  | refine yqQ (a := 2) (b := 2) rfl (by decide +kernel) (by decide +kernel) rfl rfl rfl (fun k h1 h2 hg => by (have hk : k = 2 := (by omega)); (rcases hk with rfl) <;> (first | exact std0 | exact std1)) (by exact rfl) ?_)
 refine YQ.e (v := .any) (d := none) rfl rfl rfl ?_ ?_
 · intro env' he
   exact stW tabOk rfl rfl ((rdv_congr (he 3 (by decide +kernel))).trans rfl) (by rw [rdn_congr (he 3 (by decide +kernel))]; exact tI) rfl ((rdv_congr (he 12 (by decide +kernel))).trans rfl) (by rw [rdn_congr (he 12 (by decide +kernel))]; exact tI) rfl rfl rfl rfl rfl rfl rfl ⟨rfl, rfl⟩
 repeat' (first
  | refine yqQ (a := 0) (b := 0) rfl (by decide +kernel) (by decide +kernel) rfl rfl rfl (fun k h1 h2 hg => by (have hk : k = 0 := (by omega)); (rcases hk with rfl) <;> (first | exact std0 | exact std1)) (by exact rfl) ?_
  | refine yqQ (a := 0) (b := 1) rfl (by decide +kernel) (by decide +kernel) rfl rfl rfl (fun k h1 h2 hg => by (have hk : k = 0 ∨ k = 1 := (by omega)); (rcases hk with rfl | rfl) <;> (first | exact std0 | exact std1)) (by exact rfl) ?_
  | refine yqQ (a := 1) (b := 1) rfl (by decide +kernel) (by decide +kernel) rfl rfl rfl (fun k h1 h2 hg => by (have hk : k = 1 := (by omega)); (rcases hk with rfl) <;> (first | exact std0 | exact std1)) (by exact rfl) ?_
  | refine yqQ (a := 0) (b := 2) rfl (by decide +kernel) (by decide +kernel) rfl rfl rfl (fun k h1 h2 hg => by (have hk : k = 0 ∨ k = 1 ∨ k = 2 := (by omega)); (rcases hk with rfl | rfl | rfl) <;> (first | exact std0 | exact std1)) (by exact rfl) ?_
  | refine yqQ (a := 1) (b := 2) rfl (by decide +kernel) (by decide +kernel) rfl rfl rfl (fun k h1 h2 hg => by (have hk : k = 1 ∨ k = 2 := (by omega)); (rcases hk with rfl | rfl) <;> (first | exact std0 | exact std1)) (by exact rfl) ?_
  | refine yqQ (a := 2) (b := 2) rfl (by decide +kernel) (by decide +kernel) rfl rfl rfl (fun k h1 h2 hg => by (have hk : k = 2 := (by omega)); (rcases hk with rfl) <;> (first | exact std0 | exact std1)) (by exact rfl) ?_)
 refine YQ.nil (hK _ _ ?_)
 clear hK K'
 refine AWP.keep [(1, .ptr 0 0), (3, .ptr 1 0), (4, .b true)] ⟨rfl, rfl, rfl, tI⟩ ?_
 show AWP _ _ _ _ _ [.var (Go.Proofs.YtbneeinknlddaaaGreat.encM m), .var [.fn (.func 124) [] [], .fn (.func 125) [] []]]
 clear hlk
 have hsz : (⟨m.text.toArray⟩ : ByteArray).size = m.text.length := by simp [ByteArray.size]
 have hw := contains_spec (runesS ⟨m.text.toArray⟩) (by have := runesN_len ⟨m.text.toArray⟩ (⟨m.text.toArray⟩ : ByteArray).size 0; rw [hsz] at this; unfold runesS; rw [hsz]; omega)
 repeat' (first | refine aoQ rfl rfl rfl (fun hg => by first | exact std0 | exact pcW (hf) rfl rfl nd rfl nds | exact pcW (mid_spec _) rfl rfl nd rfl nds | exact pcW (mwithin_spec _ _ _) rfl rfl nd rfl nds | exact PRun.strRunes tabOk rfl rfl nd rfl rfl rfl (by rw [hsz]; first | (have h9 : ((_ && decide ((((⟨m.text.toArray⟩ : ByteArray).size : Nat) : Int) ≤ 200)) == true) = true := hg; rw [hsz] at h9; simp at h9; omega) | (have h9 : (_ && decide ((((⟨m.text.toArray⟩ : ByteArray).size : Nat) : Int) ≤ 200)) = true := hg; rw [hsz] at h9; simp at h9; omega)) | exact pcW (hw) rfl rfl nd rfl nds) (by exact rfl) ?_ | refine sqW ?_ | refine rgK (fun K' hK => ?_) | (refine aoN (hK _ _ ?_); clear hK K') | refine cdN rfl tI (fun hc => ?_) (fun hc => ?_) | refine skW ?_ | refine rtW ?_)
 · refine ⟨.inr rfl, Ent.b ?_⟩
   unfold markOk
   rw [hby]
   clear hf hw
   (revert hc; generalize (textOk m.text) = z0; generalize (byOk 4 m.who) = z1; generalize (isId m.id) = z2; generalize (isId m.version) = z3; generalize (isId m.note) = z4; generalize (inR m.kind 1 5) = z5; generalize (inR m.value 0 1000) = z6; generalize (m.kind != 1 || decide (m.value ≤ 2)) = z7; revert z0 z1 z2 z3 z4 z5 z6 z7; decide)
 · have hk : m.kind = 1 := eq_of_beq hc
   rename_i hg
   refine ⟨.inr rfl, Ent.b ?_⟩
   unfold markOk
   rw [hby, textOk_runes]
   refine Eq.trans (b := ((inR m.value 0 2 && decide ((((⟨m.text.toArray⟩ : ByteArray).size : Nat) : Int) ≤ 200)) && !(runesS ⟨m.text.toArray⟩).any badR)) rfl ?_
   rw [hsz, inR_2, len200, hk]
   rw [hk] at hg
   clear hf hw hc
   show _ = ((decide (m.text.length ≤ 200) && !(runesS ⟨m.text.toArray⟩).any badR) && byOk 4 m.who && isId m.id && isId m.version && isId m.note && inR 1 1 5 && inR m.value 0 1000 && (false || decide (m.value ≤ 2)))
   (revert hg; generalize ((runesS ⟨m.text.toArray⟩).any badR) = z0; generalize (decide (m.text.length ≤ 200)) = z1; generalize (byOk 4 m.who) = z2; generalize (isId m.id) = z3; generalize (isId m.version) = z4; generalize (isId m.note) = z5; generalize (inR 1 1 5) = z6; generalize (inR m.value 0 1000) = z7; generalize (decide (m.value ≤ 2)) = z8; revert z0 z1 z2 z3 z4 z5 z6 z7 z8; decide)
 · rename_i hg
   refine ⟨.inr rfl, Ent.b ?_⟩
   unfold markOk
   rw [hby, textOk_runes]
   refine Eq.trans (b := ((inR m.value 0 1000 && decide ((((⟨m.text.toArray⟩ : ByteArray).size : Nat) : Int) ≤ 200)) && !(runesS ⟨m.text.toArray⟩).any badR)) rfl ?_
   have hk : (m.kind != 1) = true := by unfold bne; rw [hc]; rfl
   rw [hsz, len200, hk]
   clear hf hw hc
   show _ = ((decide (m.text.length ≤ 200) && !(runesS ⟨m.text.toArray⟩).any badR) && byOk 4 m.who && isId m.id && isId m.version && isId m.note && inR m.kind 1 5 && inR m.value 0 1000 && (true || decide (m.value ≤ 2)))
   (revert hg; generalize ((runesS ⟨m.text.toArray⟩).any badR) = z0; generalize (decide (m.text.length ≤ 200)) = z1; generalize (byOk 4 m.who) = z2; generalize (isId m.id) = z3; generalize (isId m.version) = z4; generalize (isId m.note) = z5; generalize (inR m.kind 1 5) = z6; generalize (inR m.value 0 1000) = z7; generalize (decide (m.value ≤ 2)) = z8; revert z0 z1 z2 z3 z4 z5 z6 z7 z8; decide)
end Go.Proofs.YtbneeinknlddaaaGreat
