/- What the walks use at every step: side conditions, operations that need no contract.  Marks in plain words, of the reference, and a text as runes. No statement is proved here. -/
import Derived.Laws.IdiomStrings
import Derived.Test.YtficfljjnbnhbaaGreatDoorP3
import Derived.Test.YtficfljjnbnhbaaGreatDoorP4
import Derived.Test.YtficfljjnbnhbaaGreatDoorP5
import Derived.Test.YtficfljjnbnhbaaGreatDoorP6
set_option linter.unusedVariables false
set_option linter.unusedSimpArgs false
namespace Go.Proofs.YtficfljjnbnhbaaGreatDoor
open Go.Ab
theorem nd {p : Prop} (h : p := by first | exact True.intro | exact hg) : p := h
theorem nds {p : Prop} (h : p := by first | exact True.intro | exact ⟨True.intro, True.intro⟩ | exact ⟨True.intro, True.intro, True.intro⟩ | (repeat' (first | exact True.intro | exact hg | refine ⟨?_, ?_⟩))) : p := h
theorem sd {p : Prop} (h : p := by first | exact True.intro | exact ⟨True.intro, True.intro, True.intro⟩ | exact hg | exact ⟨True.intro, True.intro⟩ | exact ⟨hg, hg, True.intro⟩ | (repeat' (first | exact True.intro | exact hg | omega | decide | refine ⟨?_, ?_⟩ | (intro h; change (_ == _) = true; rw [h]; rfl) | (intro h; change (_ && (_ == _)) = true; rw [zA0]; exact ⟨hg, by rw [h]; rfl⟩) | (exfalso; revert hg; simp; done) | (simp at hc; omega) | (exfalso; simp at hc; done) | (simp at hg; simp_all; done) | (simp at hg; simp_all; omega)))) : p := h
theorem std1 {o : Oper} {env : Env} {σ : Store} {v : AV} (h : PRun Tryz.prog o env σ v := by first
 | exact PRun.indexMW tabOk rfl rfl nd rfl nd rfl rfl (by omega)
 | exact PRun.lenM tabOk rfl rfl nd rfl
 | exact PRun.lenW tabOk rfl rfl nd rfl
 | exact PRun.binW rfl rfl nd rfl nd rfl
 | exact PRun.negWr rfl rfl nd
 | exact PRun.nilCheckP rfl rfl nd) : PRun Tryz.prog o env σ v := h
theorem std0 {o : Oper} {env : Env} {σ : Store} {v : AV} (h : PRun Tryz.prog o env σ v := by exact PRun.step tabOk rfl sd) : PRun Tryz.prog o env σ v := h
theorem iX {α : Type} [Inhabited α] (f : α → List AV) (l : List α) (i : Int) {x : α} {o : Oper} {env : Env} {σ : Store} (hx : l.getD i.toNat default = x) (h : ∀ _ : 0 ≤ i ∧ i < l.length, PRun Tryz.prog o env σ (.iptr (f (l.getD i.toNat default))) := by exact fun hb => PRun.indexMW tabOk rfl rfl nd rfl nd rfl rfl hb) (hb : 0 ≤ i ∧ i < l.length) : PRun Tryz.prog o env σ (.iptr (f x)) := hx ▸ h hb
theorem cdN {n : Nat} {K : Exit → Env → Store → Prop} {env : Env} {σ : Store} {t : Nat} {x y : Code} {v : Bool} {p q : Prop} (hv : rdv env (.tmp t) = some (.b v)) (hn : rdn env (.tmp t)) (ht : p → AWP Tryz.prog n x K env σ) (hf : q → AWP Tryz.prog n y K env σ) (c : (v = true → p) ∧ (v = false → q) := by first | exact ⟨fun h => of_decide_eq_true h, fun h => Int.not_lt.1 (of_decide_eq_false h)⟩ | exact ⟨fun h => of_decide_eq_true h, fun h => Int.not_le.1 (of_decide_eq_false h)⟩ | exact ⟨fun h => (h : (@BEq.beq _ _ _ _) = true), fun h => (h : (@BEq.beq _ _ _ _) = false)⟩ | exact ⟨fun h => of_decide_eq_true h, fun h => of_decide_eq_false h⟩ | exact ⟨fun h => h, fun h => h⟩) : AWP Tryz.prog n (.cond (.tmp t) x y) K env σ := AWP.condW hv hn (fun h => ht (c.1 h)) (fun h => hf (c.2 h))
theorem dd {C : Prop} (h : False := by first | (omega) | (simp at hc; done) | (simp at hc; omega) | (simp only [dEf, dEt] at hc; omega) | (rename_i h0; simp at h0; done) | (rename_i h0; simp at h0; omega) | fail) : C := h.elim
end Go.Proofs.YtficfljjnbnhbaaGreatDoor
namespace Go.Ab
theorem tI : True := True.intro
abbrev pcW := @PRun.callW
abbrev pbW := @PRun.callBW
abbrev rgK := @AWP.regionK
abbrev aoE := @AOps.e
abbrev stW := @EStep.storeW
abbrev aoN := @AOps.nil
abbrev alW := @EStep.allocW
abbrev cdW := @AWP.condW
abbrev blK := @AWP.block
abbrev sqW := @AWP.seq
abbrev bxW := @EStep.boxW
abbrev skW := @AWP.skip
abbrev rtW := @AWP.ret
abbrev dK2 := @AWP.drawK2
abbrev dL2 := @AWP.drawL2
abbrev aoQ := @AOps.q
abbrev exW := @AWP.exit
abbrev aqN := @AQ.nil
abbrev aqQ := @AQ.q
abbrev yqQ := @YQ.q
abbrev piW := @PRun.indexMW
abbrev pbD := @PRun.buildW
abbrev pbS := @PRun.buildSlW
abbrev scT := @EStep.callT
abbrev apO := @EStep.appendOwn'
abbrev lpD := @AWP.loopD
abbrev lpW := @AWP.loopW
abbrev nLr := @Nat.le_refl
abbrev nZl := @Nat.zero_le
abbrev nLg := @Nat.lt_or_ge
abbrev lLm := @List.length_map
abbrev lLa := @List.length_append
abbrev lMm := @List.mem_map
abbrev lGm := @List.getElem_mem
end Go.Ab
namespace Go.Jo
abbrev Bs := List UInt8
def inR (n lo hi : Int) : Bool := decide (lo ≤ n) && decide (n ≤ hi)
def isId (n : Int) : Bool := inR n 1 1000000
structure Rdr where
 part : Int
 desk : Int
 seat : Int
 deriving DecidableEq, Inhabited
structure Mark where
 id : Int
 kind : Int
 layer : Int
 who : Rdr
 version : Int
 note : Int
 value : Int
 text : Bs
 deriving DecidableEq, Inhabited
def noMark : Mark := ⟨0, 0, 0, ⟨0, 0, 0⟩, 0, 0, 0, []⟩
def isRdr (r : Rdr) : Bool := isId r.part && inR r.desk 1 40 && inR r.seat 1 4
def byOk (layer : Int) (r : Rdr) : Bool :=
 if layer = 1 then isRdr r else if layer = 2 then isId r.part && inR r.desk 1 40 && r.seat == 0 else if layer = 3 then inR r.part 0 99 && r.desk == 0 && r.seat == 0 else
 if layer = 4 then r.part == 0 && r.desk == 0 && r.seat == 0 else false
def textOk (t : Bs) : Bool := decide (t.length ≤ 200) && t.all fun c => decide (32 ≤ c.toNat) && decide (c.toNat ≤ 126)
def markOk (m : Mark) : Bool := textOk m.text && byOk m.layer m.who && isId m.id && isId m.version && isId m.note && inR m.kind 1 5 && inR m.value 0 1000 && (m.kind != 1 || decide (m.value ≤ 2))
theorem textOk_iff {t : Bs} : textOk t = true ↔ t.length ≤ 200 ∧ ∀ c ∈ t, 32 ≤ c.toNat ∧ c.toNat ≤ 126 := by
 simp [textOk]
end Go.Jo
namespace Go.Ab
abbrev AV.bs (t : List UInt8) : AV := .str ⟨t.toArray⟩
end Go.Ab
namespace Go.Proofs.YtficfljjnbnhbaaGreatDoor.Mk
open Go.Ab Go.Jo
attribute [local irreducible] AWP AOps EStep AQ PStep PRun PCall TCall VCall DStep TDies AWD DCall
def encRd (r : Rdr) : List AV := [.int r.part, .int r.desk, .int r.seat]
def encMk (m : Jo.Mark) : List AV := [.int m.id, .int m.kind, .int m.layer, .int m.who.part, .int m.who.desk, .int m.who.seat, .int m.version, .int m.note, .int m.value, .bs m.text]
theorem in19_spec (a b c : Int) : PCall Tryz.prog 144 [.int a, .int b, .int c] (.b (inR a b c)) := by
 refine PCall.body Tryz.func144 rfl rfl Tryz.ntmps144 rfl rfl ?_
 repeat' (first | refine aoQ rfl rfl rfl (fun hg => by exact std0) (by exact rfl) ?_ | refine sqW ?_ | refine rgK (fun K' hK => ?_) | (refine aoN (hK _ _ ?_); clear hK K') | refine rtW ?_)
 exact ⟨.inr rfl, Ent.b rfl⟩
theorem mwithin_spec (a b c : Int) : PCall Tryz.prog 70 [.int a, .int b, .int c] (.b (inR a b c)) := by
 refine PCall.body Tryz.func70 rfl rfl Tryz.ntmps70 rfl rfl ?_
 repeat' (first | refine aoQ rfl rfl rfl (fun hg => by exact std0) (by exact rfl) ?_ | refine sqW ?_ | refine rgK (fun K' hK => ?_) | (refine aoN (hK _ _ ?_); clear hK K') | refine rtW ?_)
 exact ⟨.inr rfl, Ent.b rfl⟩
theorem id19_spec (a : Int) : PCall Tryz.prog 143 [.int a] (.b (isId a)) := by
 refine PCall.body Tryz.func143 rfl rfl Tryz.ntmps143 rfl rfl ?_
 repeat' (first | refine aoQ rfl rfl rfl (fun hg => by first | exact std0 | exact pcW (in19_spec _ _ _) rfl rfl nd rfl nds | exact std1) (by exact rfl) ?_ | refine sqW ?_ | refine rgK (fun K' hK => ?_) | (refine aoN (hK _ _ ?_); clear hK K') | refine rtW ?_)
 exact ⟨.inr rfl, Ent.b rfl⟩
theorem mid_spec (a : Int) : PCall Tryz.prog 69 [.int a] (.b (isId a)) := by
 refine PCall.body Tryz.func69 rfl rfl Tryz.ntmps69 rfl rfl ?_
 repeat' (first | refine aoQ rfl rfl rfl (fun hg => by first | exact std0 | exact pcW (mwithin_spec _ _ _) rfl rfl nd rfl nds | exact std1) (by exact rfl) ?_ | refine sqW ?_ | refine rgK (fun K' hK => ?_) | (refine aoN (hK _ _ ?_); clear hK K') | refine rtW ?_)
 exact ⟨.inr rfl, Ent.b rfl⟩
theorem rdr19_spec (r : Rdr) : PCall Tryz.prog 93 [.agg (encRd r)] (.b (isRdr r)) := by
 refine PCall.body Tryz.func93 rfl rfl Tryz.ntmps93 rfl rfl ?_
 repeat' (first | refine aoQ rfl rfl rfl (fun hg => by first | exact std0 | exact pcW (in19_spec _ _ _) rfl rfl nd rfl nds | exact pcW (id19_spec _) rfl rfl nd rfl nds | exact std1) (by exact rfl) ?_ | refine sqW ?_ | refine rgK (fun K' hK => ?_) | (refine aoN (hK _ _ ?_); clear hK K') | refine aoE (bxW rfl rfl rfl rfl rfl tI rfl rfl ?_) | refine rtW ?_)
 exact ⟨.inr rfl, Ent.b rfl⟩
theorem mrdr_spec (r : Rdr) : PCall Tryz.prog 62 [.agg (encRd r)] (.b (isRdr r)) := by
 refine PCall.body Tryz.func62 rfl rfl Tryz.ntmps62 rfl rfl ?_
 repeat' (first | refine aoQ rfl rfl rfl (fun hg => by first | exact std0 | exact pcW (mwithin_spec _ _ _) rfl rfl nd rfl nds | exact pcW (mid_spec _) rfl rfl nd rfl nds | exact std1) (by exact rfl) ?_ | refine sqW ?_ | refine rgK (fun K' hK => ?_) | (refine aoN (hK _ _ ?_); clear hK K') | refine aoE (bxW rfl rfl rfl rfl rfl tI rfl rfl ?_) | refine rtW ?_)
 exact ⟨.inr rfl, Ent.b rfl⟩
theorem by19_spec (l : Int) (r : Rdr) : PCall Tryz.prog 174 [.int l, .agg (encRd r)] (.b (byOk l r)) := by
 have v := rdr19_spec r
 refine PCall.body Tryz.func174 rfl rfl Tryz.ntmps174 rfl rfl ?_
 repeat' (first | refine aoQ rfl rfl rfl (fun hg => by first | exact std0 | exact pcW (v) rfl rfl nd rfl nds | exact pcW (in19_spec _ _ _) rfl rfl nd rfl nds | exact pcW (id19_spec _) rfl rfl nd rfl nds | exact std1) (by exact rfl) ?_ | refine sqW ?_ | refine rgK (fun K' hK => ?_) | (refine aoN (hK _ _ ?_); clear hK K') | refine aoE (bxW rfl rfl rfl rfl rfl tI rfl rfl ?_) | refine cdN rfl tI (fun hc => ?_) (fun hc => ?_) | refine blK ?_ | refine skW ?_ | refine rtW ?_)
 all_goals (refine ⟨.inr rfl, Ent.b ?_⟩; simp_all [byOk, beq_iff_eq])
theorem text_bad {t : Bs} {k : Nat} (hk : k < t.length) (h : (t.getD k 0).toNat < 32 ∨ 126 < (t.getD k 0).toNat) : textOk t = false := by
 cases h1 : textOk t with
 | false => rfl
 | true =>
   have := (textOk_iff.1 h1).2 (t.getD k 0) (by simp [List.getD, hk])
   omega
theorem text_good {t : Bs} (h1 : t.length ≤ 200) (h : ∀ j, j < t.length → 32 ≤ (t.getD j 0).toNat ∧ (t.getD j 0).toNat ≤ 126) : textOk t = true :=
 textOk_iff.2 ⟨h1, fun c hc => by
  obtain ⟨i, hi, rfl⟩ := zAq.1 hc
  have := h i hi
  simpa [List.getD, hi] using this⟩
theorem text19_spec (t : Bs) (ht : t.length ≤ 9223372036854775807) : PCall Tryz.prog 173 [.bs t] (.b (textOk t)) := by
 have hsz : (⟨t.toArray⟩ : ByteArray).size = t.length := by simp [ByteArray.size]
 refine PCall.body Tryz.func173 rfl rfl Tryz.ntmps173 rfl rfl ?_
 repeat' (first | refine aoQ rfl rfl rfl (fun hg => by exact std0) (by exact rfl) ?_ | refine sqW ?_ | refine rgK (fun K' hK => ?_) | (refine aoN (hK _ _ ?_); clear hK K') | refine cdN rfl tI (fun hc => ?_) (fun hc => ?_) | refine blK ?_ | refine skW ?_ | refine rtW ?_)
 · refine ⟨.inr rfl, Ent.b ?_⟩
   rw [hsz] at hc
   have : decide (t.length ≤ 200) = false := by simp; omega
   unfold textOk; rw [this]; rfl
 refine lpW (ι := Nat) (fun k => [(0, .bs t), (3, .int k)]) (fun _ => []) (fun k => k ≤ t.length ∧ ∀ j, j < k → 32 ≤ (t.getD j 0).toNat ∧ (t.getD j 0).toNat ≤ 126) (fun k => t.length - k) 0 ⟨nZl _, fun j h => absurd h (by omega)⟩ ⟨rfl, rfl, tI⟩ rfl ?_
 rintro k ⟨hk, hall⟩
 rw [hsz] at hc
 by_cases hlt : k < t.length
 · repeat' (first | refine aoQ rfl rfl rfl (fun hg => by exact std0) (by exact rfl) ?_ | refine sqW ?_ | refine rgK (fun K' hK => ?_) | (refine aoN (hK _ _ ?_); clear hK K') | refine cdN rfl tI (fun hc => ?_) (fun hc => ?_) | refine blK ?_ | refine exW ?_ | refine skW ?_ | refine rtW ?_)
   · refine ⟨.inr rfl, Ent.b (Eq.symm (text_bad hlt ?_))⟩
     simp only [zAj, zBe, zA0, zAh, zCj, dEt, dEf, zAm, zAp, beq_iff_eq, beq_eq_false_iff_ne, bne_iff_ne, bne_eq_false_iff_eq, gt_iff_lt, ge_iff_le, ne_eq] at hc; omega
   · refine ⟨k + 1, ⟨by omega, fun j hj => lt_succ_cases hall ?_ hj⟩, by omega, ⟨rfl, rfl, tI⟩, rfl⟩
     simp only [zAj, zBe, zA0, zAh, zCj, dEt, dEf, zAm, zAp, beq_iff_eq, beq_eq_false_iff_ne, bne_iff_ne, bne_eq_false_iff_eq, gt_iff_lt, ge_iff_le, ne_eq] at hc; omega
   · exfalso; omega
 · repeat' (first | refine aoQ rfl rfl rfl (fun hg => by exact std0) (by exact rfl) ?_ | refine sqW ?_ | refine rgK (fun K' hK => ?_) | (refine aoN (hK _ _ ?_); clear hK K') | refine cdN rfl tI (fun hc => ?_) (fun hc => ?_) | refine blK ?_ | refine exW ?_ | refine skW ?_ | refine rtW ?_)
   all_goals (first | (exfalso; omega) | skip)
   · exact ⟨.inr rfl, Ent.b (text_good (by omega) fun j hj => hall j (by omega)).symm⟩
theorem flM : flatN Tryz.prog 66 = some [.int .i64, .int .i64, .int .i64, .int .i64, .int .i64, .int .i64, .int .i64, .int .i64, .int .i64, .str] := by kernel_rfl
theorem flR : flatN Tryz.prog 56 = some [.int .i64, .int .i64, .int .i64] := by kernel_rfl
theorem valid19_spec (m : Jo.Mark) (ht : m.text.length ≤ 9223372036854775807) : PCall Tryz.prog 138 [.agg (encMk m)] (.b (markOk m)) := by
 have v := by19_spec m.layer m.who
 have w := text19_spec m.text ht
 refine PCall.body Tryz.func138 rfl rfl Tryz.ntmps138 rfl rfl ?_
 repeat' (first | refine aoQ rfl rfl rfl (fun hg => by first | exact std0 | exact pcW (v) rfl rfl nd rfl nds | exact pcW (w) rfl rfl nd rfl nds | exact pcW (in19_spec _ _ _) rfl rfl nd rfl nds | exact pcW (id19_spec _) rfl rfl nd rfl nds | exact std1) (by exact rfl) ?_ | refine sqW ?_ | refine rgK (fun K' hK => ?_) | (refine aoN (hK _ _ ?_); clear hK K') | refine aoE (bxW rfl rfl rfl rfl rfl tI rfl rfl ?_) | refine cdN rfl tI (fun hc => ?_) (fun hc => ?_) | refine skW ?_ | refine rtW ?_)
 · refine ⟨.inr rfl, Ent.b ?_⟩
   unfold markOk
   (revert hc; generalize (textOk m.text) = z0; generalize (byOk m.layer m.who) = z1; generalize (isId m.id) = z2; generalize (isId m.version) = z3; generalize (isId m.note) = z4; generalize (inR m.kind 1 5) = z5; generalize (inR m.value 0 1000) = z6; generalize (m.kind != 1 || decide (m.value ≤ 2)) = z7; revert z0 z1 z2 z3 z4 z5 z6 z7; decide)
 · refine ⟨.inr rfl, Ent.b ?_⟩
   unfold markOk
   show (inR m.value 0 1000 && (m.kind != 1 || decide (m.value ≤ 2))) = _
   (revert hc; generalize (textOk m.text) = z0; generalize (byOk m.layer m.who) = z1; generalize (isId m.id) = z2; generalize (isId m.version) = z3; generalize (isId m.note) = z4; generalize (inR m.kind 1 5) = z5; generalize (inR m.value 0 1000) = z6; generalize (m.kind != 1 || decide (m.value ≤ 2)) = z7; revert z0 z1 z2 z3 z4 z5 z6 z7; decide)
theorem bs_beq (t u : Bs) : ((⟨t.toArray⟩ : ByteArray) == ⟨u.toArray⟩) = (t == u) := by
 show (t.toArray == u.toArray) = (t == u)
 rw [zAs]; simp
def eqM (m k : Jo.Mark) : Bool := m.id == k.id && (m.kind == k.kind && (m.layer == k.layer && (m.who.part == k.who.part && (m.who.desk == k.who.desk && (m.who.seat == k.who.seat && (m.version == k.version && (m.note == k.note && (m.value == k.value && (((⟨m.text.toArray⟩ : ByteArray) == ⟨k.text.toArray⟩) && true)))))))))
theorem eqM_eq (m k : Jo.Mark) : eqM m k = (m == k) := by
 unfold eqM
 rw [bs_beq, zAs]
 obtain ⟨a, b, c, ⟨d, e, f⟩, g, h, i, j⟩ := m
 obtain ⟨a', b', c', ⟨d', e', f'⟩, g', h', i', j'⟩ := k
 simp
 exact fun _ _ _ => ⟨fun ⟨h1, h2, h3, h4⟩ => ⟨⟨h1, h2, h3⟩, h4⟩, fun ⟨⟨h1, h2, h3⟩, h4⟩ => ⟨h1, h2, h3, h4⟩⟩
end Go.Proofs.YtficfljjnbnhbaaGreatDoor.Mk
namespace Go.Ab
def runesN (s : ByteArray) : Nat → Nat → List Nat
 | 0, _ => []
 | f + 1, i => if i < s.size then (Utf8.decode s i).1 :: runesN s f (i + (Utf8.decode s i).2) else []
theorem runesFrom_eq (s : ByteArray) : ∀ (f i : Nat) (acc : Array Value), Conv.runesFrom s f i acc = acc ++ ((runesN s f i).map fun (r : Nat) => Value.int .i32 (r : Int)).toArray
 | 0, i, acc => by simp [Conv.runesFrom, runesN]
 | f + 1, i, acc => by
   unfold Conv.runesFrom runesN
   split
   · show Conv.runesFrom s f (i + (Utf8.decode s i).2) (acc.push (.int .i32 (Int.ofNat (Utf8.decode s i).1))) = _
     rw [runesFrom_eq s f]; simp
   · simp
abbrev runesS (s : ByteArray) : List Nat := runesN s s.size 0
theorem runesN_len (s : ByteArray) : ∀ (f i : Nat), (runesN s f i).length ≤ f
 | 0, i => by simp [runesN]
 | f + 1, i => by
   unfold runesN
   split
   · have := runesN_len s f (i + (Utf8.decode s i).2); simp; omega
   · simp
abbrev r4 (r : Nat) : List AV := [.prim (.int .i32 (r : Int))]
theorem PRun.strRunes {P : Program} {T : Tab} {o : Oper} {env : Env} {σ : Store} (hT : T.Ok P) {s d e : TypeId} {x : Operand} {t : ByteArray} {s1 b1 s2 b2 s3 b3 : Nat} {z z2 z3 : List Z} (ho : o.op = .convert s d x) (hx : rdv env x = some (.str t)) (nx : rdn env x)
 (hs' : T.get s = some ⟨.str, s1, b1, z⟩) (hd : T.get d = some ⟨.slice e, s3, b3, z3⟩) (he : T.get e = some ⟨.int .i32, s2, b2, z2⟩) (hsz : t.size ≤ 70368744177664) : PRun P o env σ (.sl 1 ((runesS t).map r4) .no) := by
 intro G A w hs hv
 have h1 := VRel.prim_eq (rd (Rd.w hx nx) (by simp [ho, Op.operands]) hv)
 have us : P.underlying s = some .string := LOk.undStr (LOk.of (hT.get hs'))
 have ud : P.underlying d = some (.slice e) := LOk.undSlice (LOk.of (hT.get hd))
 have ue : P.underlying e = some (.int .i32) := by
  obtain ⟨dd, k1, k2⟩ := (LOk.of (hT.get he)).und
  cases dd <;> simp [ltOf] at k2
  subst k2; exact k1
 have hrf := runesFrom_eq t t.size 0 #[]
 have hrl := runesN_len t t.size 0
 have hrn : (Conv.runesFrom t t.size 0 #[]).size = (runesS t).length := by rw [hrf]; simp
 obtain ⟨C, hC⟩ : ∃ C, C = (Conv.runesFrom t t.size 0 #[] ++ Array.replicate (grownCap w (Conv.runesFrom t t.size 0 #[]).size 0 e - (Conv.runesFrom t t.size 0 #[]).size) (Value.int .i32 0)) := ⟨_, rfl⟩
 have hrun : (execOp A.eval o).run P w = .ok (.value (.slice (some ⟨w.heap.size, 0, none⟩) (runesS t).length (grownCap w (runesS t).length 0 e))) (w.drew.alloc (.cells C e)) := by
  simp only [execOp, ho, h1]
  rw [Sem.run_bind, run_runes_of_string w s d e t us ud ue (by rw [hrn]; exact zBb hrl hsz), hrn, hC, hrn]; rfl
 unfold OWP
 rw [hrun]
 have hsz1 : (w.drew.alloc (.cells C e)).heap.size = w.heap.size + 1 := by
  show (w.heap.push _).size = _
  simp
 have hold : ∀ b, b < w.heap.size → (w.drew.alloc (.cells C e)).heap[b]? = w.heap[b]? := fun b hb => by
  show (w.heap.push _)[b]? = _
  rw [zDg, if_neg (by omega)]
 have hnew : (w.drew.alloc (.cells C e)).heap[w.heap.size]? = some (.cells C e) := by
  show (w.heap.push _)[w.heap.size]? = _
  simp
 obtain ⟨hs2, hle⟩ := hs.newStay C hsz1 hold (fun o v hv => by
  simp only [World.cell?, hnew]; exact hv) OutR.r
 refine ⟨_, _, rfl, ?_, .upM hle, hs2⟩
 have hlen : (runesS t).length = ((runesS t).map r4).length := by rw [lLm]
 rw [hlen]
 have hcap : ((runesS t).map r4).length ≤ grownCap w ((runesS t).map r4).length 0 e := grownCap_ge w _ 0 e
 refine .sl 1 _ .no w.heap.size 0 _ (fun i j => .int .i32 ((runesS t).getD i 0 : Nat)) (fun e he => by simp at he; obtain ⟨_, _, rfl⟩ := he; rfl) (fun i j hi hj => ?_) (fun i j e c hi hj => ?_) hcap trivial
 · have hi' : i < (runesS t).length := by simpa using hi
   have hj0 : j = 0 := by omega
   subst hj0
   simp only [Mem.addBlk, if_pos rfl, zC3, Nat.mul_one, zBy, hC]
   rw [zAn (by rw [hrn]; exact hi'), hrf]
   simp [List.getD, hi']
 · simp only [zAa, zA6] at hi
   obtain ⟨c', hc', rfl⟩ := hi
   match j, hj with
   | 0, hj =>
     simp at hj; subst hj
     have : (runesS t).getD i 0 = c' := by simp only [List.getD, hc', zD3]
     rw [this]; exact .prim _
   | j + 1, hj => simp at hj
end Go.Ab
namespace Go.Proofs.YtficfljjnbnhbaaGreatDoor.Mk
open Go.Ab Go.Jo
attribute [local irreducible] AWP AOps EStep AQ PStep PRun PCall TCall VCall DStep TDies AWD DCall
theorem dec_low {s : ByteArray} {i : Nat} (h : (s.get! i).toNat < 128) : Utf8.decode s i = ((s.get! i).toNat, 1) := by
 unfold Utf8.decode
 simp only [zBy]
 rw [if_pos h]
theorem dec_high {s : ByteArray} {i : Nat} (h : ¬ (s.get! i).toNat < 128) : 126 < (Utf8.decode s i).1 := by
 unfold Utf8.decode
 simp only [zBy]
 rw [if_neg h]
 simp only [Utf8.runeError]
 split
 · split
   · simp only []; omega
   · decide
 · split
   · split
     · rename_i h1; simp only [zA0, dEt] at h1; simp only []; omega
     · decide
   · split
     · split
       · rename_i h1; simp only [zA0, dEt] at h1; simp only []; omega
       · decide
     · decide
def badR (r : Nat) : Bool := decide (r < 32) || decide (126 < r)
def badB (c : UInt8) : Bool := badR c.toNat
theorem get_at {t : Bs} {i : Nat} (h : i < t.length) : (⟨t.toArray⟩ : ByteArray).get! i = t[i] := by
 show t.toArray[i]! = _
 simp [h]
theorem runes_any (t : Bs) : ∀ (f i : Nat), i + f = t.length → (runesN ⟨t.toArray⟩ f i).any badR = (t.drop i).any badB
 | 0, i, h => by rw [List.drop_eq_nil_of_le (by omega)]; simp [runesN]
 | f + 1, i, h => by
   have hi : i < t.length := by omega
   have hsz : (⟨t.toArray⟩ : ByteArray).size = t.length := by simp [ByteArray.size]
   unfold runesN
   rw [if_pos (by rw [hsz]; exact hi), zBc hi, List.any_cons, List.any_cons]
   by_cases hl : (t[i]).toNat < 128
   · rw [dec_low (by rw [get_at hi]; exact hl), get_at hi]
     simp only []
     rw [runes_any t f (i + 1) (by omega)]; rfl
   · have h1 := dec_high (s := ⟨t.toArray⟩) (i := i) (by rw [get_at hi]; exact hl)
     have e1 : badR (Utf8.decode ⟨t.toArray⟩ i).1 = true := by unfold badR; simp; omega
     have e2 : badB t[i] = true := by unfold badB badR; simp; omega
     rw [e1, e2]; rfl
theorem textOk_runes (t : Bs) : textOk t = (decide (t.length ≤ 200) && !(runesS ⟨t.toArray⟩).any badR) := by
 have hsz : (⟨t.toArray⟩ : ByteArray).size = t.length := by simp [ByteArray.size]
 rw [runesS, hsz, runes_any t t.length 0 (by omega), zDf, zAs, textOk_iff]
 simp only [zA0, dEt, zAm, zDc]
 refine and_congr_right fun _ => ⟨fun h c hc => ?_, fun h c hc => ?_⟩
 · have := h c hc
   unfold badB badR; simp; omega
 · have := h c hc
   unfold badB badR at this; simp at this; omega
theorem badF (r : Nat) : PCall Tryz.prog 68 [.prim (.int .i32 (r : Int))] (.b (badR r)) := by
 refine PCall.body Tryz.func68 rfl rfl Tryz.ntmps68 rfl rfl ?_
 repeat' (first | refine aoQ rfl rfl rfl (fun hg => by exact std0) (by exact rfl) ?_ | refine sqW ?_ | refine rgK (fun K' hK => ?_) | (refine aoN (hK _ _ ?_); clear hK K') | refine rtW ?_)
 refine ⟨.inr rfl, Ent.b ?_⟩
 unfold badR
 show (decide ((r : Int) < 32) || decide ((r : Int) > 126)) = _
 rw [zAs]; simp; omega
def idxR (rs : List Nat) : Int := if rs.any badR then ((rs.findIdx badR : Nat) : Int) else -1
theorem index_spec (rs : List Nat) (hl : rs.length ≤ 9223372036854775807) : PCall Tryz.prog 107 [.sl 1 (rs.map r4) .no, .fn (.func 68) [] []] (.int (idxR rs)) := by
 refine PCall.body Tryz.func107 rfl rfl Tryz.ntmps107 rfl rfl ?_
 repeat' (first | refine aoQ rfl rfl rfl (fun hg => by first | exact std0 | exact std1) (by exact rfl) ?_ | refine sqW ?_ | refine rgK (fun K' hK => ?_) | (refine aoN (hK _ _ ?_); clear hK K') | refine blK ?_)
 refine lpW (ι := Nat) (fun k => [(0, .sl 1 (rs.map r4) .no), (1, .fn (.func 68) [] []), (7, .int rs.length), (8, .int k)]) (fun _ => []) (fun k => k ≤ rs.length ∧ ∀ (j : Nat) (h : j < rs.length), j < k → badR rs[j] = false) (fun k => rs.length - k) 0 ⟨nZl _, fun j _ h => absurd h (by omega)⟩ ⟨rfl, rfl, rfl, rfl, tI⟩ rfl ?_
 rintro k ⟨hk, hall⟩
 have hv := badF (rs.getD k default)
 by_cases hlt : k < rs.length
 · repeat' (first | refine aoQ rfl rfl rfl (fun hg => by first | exact std0 | exact pcW (hv) rfl rfl nd rfl nds | exact std1) (by exact rfl) ?_ | refine sqW ?_ | refine rgK (fun K' hK => ?_) | (refine aoN (hK _ _ ?_); clear hK K') | refine cdN rfl tI (fun hc => ?_) (fun hc => ?_) | refine blK ?_ | refine exW ?_ | refine skW ?_ | refine rtW ?_)
   · refine ⟨.inr rfl, Ent.int ?_⟩
     have hc' : badR rs[k] = true := by rw [← getD_lt hlt]; exact hc
     have h1 : rs.findIdx badR = k := (List.findIdx_eq hlt).2 ⟨hc', fun j hj => hall j (by omega) hj⟩
     unfold idxR
     rw [if_pos (zBw.2 ⟨rs[k], lGm hlt, hc'⟩), h1]
   · have hc' : badR rs[k] = false := by rw [← getD_lt hlt]; exact hc
     refine ⟨k + 1, ⟨by omega, fun j h hj => ?_⟩, by omega, ⟨rfl, rfl, rfl, rfl, tI⟩, rfl⟩
     rcases Nat.lt_succ_iff_lt_or_eq.1 hj with h1 | h1
     · exact hall j h h1
     · subst h1; exact hc'
   · exfalso; omega
 · repeat' (first | refine aoQ rfl rfl rfl (fun hg => by first | exact std0 | exact std1) (by exact rfl) ?_ | refine sqW ?_ | refine rgK (fun K' hK => ?_) | (refine aoN (hK _ _ ?_); clear hK K') | refine cdN rfl tI (fun hc => ?_) (fun hc => ?_) | refine blK ?_ | refine exW ?_ | refine skW ?_ | refine rtW ?_)
   all_goals (first | (exfalso; omega) | skip)
   refine ⟨.inr rfl, Ent.int ?_⟩
   unfold idxR
   rw [if_neg]
   intro h
   obtain ⟨x, hx, hb⟩ := zBw.1 h
   obtain ⟨j, hj, rfl⟩ := zAq.1 hx
   rw [hall j hj (by omega)] at hb; cases hb
theorem contains_spec (rs : List Nat) (hl : rs.length ≤ 9223372036854775807) : PCall Tryz.prog 71 [.sl 1 (rs.map r4) .no, .fn (.func 68) [] []] (.b (rs.any badR)) := by
 have hv := index_spec rs hl
 refine PCall.body Tryz.func71 rfl rfl Tryz.ntmps71 rfl rfl ?_
 repeat' (first | refine aoQ rfl rfl rfl (fun hg => by first | exact std0 | exact pcW (hv) rfl rfl nd rfl nds | exact std1) (by exact rfl) ?_ | refine sqW ?_ | refine rgK (fun K' hK => ?_) | (refine aoN (hK _ _ ?_); clear hK K') | refine rtW ?_)
 refine ⟨.inr rfl, Ent.b ?_⟩
 unfold idxR
 cases rs.any badR with
 | true => rw [if_pos rfl]; simp
 | false => rfl
end Go.Proofs.YtficfljjnbnhbaaGreatDoor.Mk
