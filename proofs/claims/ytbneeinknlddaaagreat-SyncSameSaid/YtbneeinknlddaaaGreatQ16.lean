/- Text as runes.  Contracts by content: the marks of the program.  Contracts by content: the layers of marks; a mark of the program. No statement is proved here. -/
import Derived.Laws.IdiomStrings
import Derived.Test.YtbneeinknlddaaaGreatQ3
import Derived.Test.YtbneeinknlddaaaGreatQ15
set_option linter.unusedVariables false
set_option linter.unusedSimpArgs false
namespace Go.Ab
def runesN (s : ByteArray) : Nat → Nat → List Nat
 | 0, _ => []
 | f + 1, i => if i < s.size then (Utf8.decode s i).1 :: runesN s f (i + (Utf8.decode s i).2) else []
theorem runesFrom_eq (s : ByteArray) : ∀ (f i : Nat) (acc : Array Value), Conv.runesFrom s f i acc = acc ++ ((runesN s f i).map fun (r : Nat) => Value.int .i32 (r : Int)).toArray
 | 0, i, acc => by simp [Conv.runesFrom, runesN]
 | f + 1, i, acc => by
   unfold Conv.runesFrom runesN
   split
   · show Conv.runesFrom s f (i + (Utf8.decode s i).2) (acc.push (.int .i32 (Int.ofNat (Utf8.decode s i).1))) = _
     rw [runesFrom_eq s f]; simp
   · simp
abbrev runesS (s : ByteArray) : List Nat := runesN s s.size 0
theorem runesN_len (s : ByteArray) : ∀ (f i : Nat), (runesN s f i).length ≤ f
 | 0, i => by simp [runesN]
 | f + 1, i => by
   unfold runesN
   split
   · have := runesN_len s f (i + (Utf8.decode s i).2); simp; omega
   · simp
abbrev r4 (r : Nat) : List AV := [.prim (.int .i32 (r : Int))]
theorem PRun.strRunes {P : Program} {T : Tab} {o : Oper} {env : Env} {σ : Store} (hT : T.Ok P) {s d e : TypeId} {x : Operand} {t : ByteArray} {s1 b1 s2 b2 s3 b3 : Nat} {z z2 z3 : List Z} (ho : o.op = .convert s d x) (hx : rdv env x = some (.str t)) (nx : rdn env x)
 (hs' : T.get s = some ⟨.str, s1, b1, z⟩) (hd : T.get d = some ⟨.slice e, s3, b3, z3⟩) (he : T.get e = some ⟨.int .i32, s2, b2, z2⟩) (hsz : t.size ≤ 70368744177664) : PRun P o env σ (.sl 1 ((runesS t).map r4) .no) := by
 intro G A w hs hv
 have h1 := VRel.prim_eq (rd (Rd.w hx nx) (by simp [ho, Op.operands]) hv)
 have us : P.underlying s = some .string := LOk.undStr (LOk.of (hT.get hs'))
 have ud : P.underlying d = some (.slice e) := LOk.undSlice (LOk.of (hT.get hd))
 have ue : P.underlying e = some (.int .i32) := by
  obtain ⟨dd, k1, k2⟩ := (LOk.of (hT.get he)).und
  cases dd <;> simp [ltOf] at k2
  subst k2; exact k1
 have hrf := runesFrom_eq t t.size 0 #[]
 have hrl := runesN_len t t.size 0
 have hrn : (Conv.runesFrom t t.size 0 #[]).size = (runesS t).length := by rw [hrf]; simp
 obtain ⟨C, hC⟩ : ∃ C, C = (Conv.runesFrom t t.size 0 #[] ++ Array.replicate (grownCap w (Conv.runesFrom t t.size 0 #[]).size 0 e - (Conv.runesFrom t t.size 0 #[]).size) (Value.int .i32 0)) := ⟨_, rfl⟩
 have hrun : (execOp A.eval o).run P w = .ok (.value (.slice (some ⟨w.heap.size, 0, none⟩) (runesS t).length (grownCap w (runesS t).length 0 e))) (w.drew.alloc (.cells C e)) := by
  simp only [execOp, ho, h1]
  rw [Sem.run_bind, run_runes_of_string w s d e t us ud ue (by rw [hrn]; exact Nat.le_trans hrl hsz), hrn, hC, hrn]; rfl
 unfold OWP
 rw [hrun]
 have hsz1 : (w.drew.alloc (.cells C e)).heap.size = w.heap.size + 1 := by
  show (w.heap.push _).size = _
  simp
 have hold : ∀ b, b < w.heap.size → (w.drew.alloc (.cells C e)).heap[b]? = w.heap[b]? := fun b hb => by
  show (w.heap.push _)[b]? = _
  rw [zCy, if_neg (by omega)]
 have hnew : (w.drew.alloc (.cells C e)).heap[w.heap.size]? = some (.cells C e) := by
  show (w.heap.push _)[w.heap.size]? = _
  simp
 obtain ⟨hs2, hle⟩ := hs.newStay C hsz1 hold (fun o v hv => by
  simp only [World.cell?, hnew]; exact hv) OutR.r
 refine ⟨_, _, rfl, ?_, .upM hle, hs2⟩
 have hlen : (runesS t).length = ((runesS t).map r4).length := by rw [lLm]
 rw [hlen]
 have hcap : ((runesS t).map r4).length ≤ grownCap w ((runesS t).map r4).length 0 e := grownCap_ge w _ 0 e
 refine .sl 1 _ .no w.heap.size 0 _ (fun i j => .int .i32 ((runesS t).getD i 0 : Nat)) (fun e he => by simp at he; obtain ⟨_, _, rfl⟩ := he; rfl) (fun i j hi hj => ?_) (fun i j e c hi hj => ?_) hcap trivial
 · have hi' : i < (runesS t).length := by simpa using hi
   have hj0 : j = 0 := by omega
   subst hj0
   simp only [Mem.addBlk, if_pos rfl, zBs, Nat.mul_one, zBk, hC]
   rw [zAl (by rw [hrn]; exact hi'), hrf]
   simp [List.getD, hi']
 · simp only [zAd, zA6] at hi
   obtain ⟨c', hc', rfl⟩ := hi
   match j, hj with
   | 0, hj =>
     simp at hj; subst hj
     have : (runesS t).getD i 0 = c' := by simp only [List.getD, hc', zCk]
     rw [this]; exact .prim _
   | j + 1, hj => simp at hj
end Go.Ab
namespace Go.Proofs.YtbneeinknlddaaaGreat
open Go.Ab Go.Jo
attribute [local irreducible] AWP AOps EStep AQ PStep PRun PCall TCall VCall DStep TDies AWD DCall
theorem dec_low {s : ByteArray} {i : Nat} (h : (s.get! i).toNat < 128) : Utf8.decode s i = ((s.get! i).toNat, 1) := by
 unfold Utf8.decode
 simp only [zBk]
 rw [if_pos h]
theorem dec_high {s : ByteArray} {i : Nat} (h : ¬ (s.get! i).toNat < 128) : 126 < (Utf8.decode s i).1 := by
 unfold Utf8.decode
 simp only [zBk]
 rw [if_neg h]
 simp only [Utf8.runeError]
 split
 · split
   · simp only []; omega
   · decide
 · split
   · split
     · rename_i h1; simp only [zA2, dEt] at h1; simp only []; omega
     · decide
   · split
     · split
       · rename_i h1; simp only [zA2, dEt] at h1; simp only []; omega
       · decide
     · decide
def badR (r : Nat) : Bool := decide (r < 32) || decide (126 < r)
def badB (c : UInt8) : Bool := badR c.toNat
theorem get_at {t : Bs} {i : Nat} (h : i < t.length) : (⟨t.toArray⟩ : ByteArray).get! i = t[i] := by
 show t.toArray[i]! = _
 simp [h]
theorem runes_any (t : Bs) : ∀ (f i : Nat), i + f = t.length → (runesN ⟨t.toArray⟩ f i).any badR = (t.drop i).any badB
 | 0, i, h => by rw [List.drop_eq_nil_of_le (by omega)]; simp [runesN]
 | f + 1, i, h => by
   have hi : i < t.length := by omega
   have hsz : (⟨t.toArray⟩ : ByteArray).size = t.length := by simp [ByteArray.size]
   unfold runesN
   rw [if_pos (by rw [hsz]; exact hi), zBg hi, List.any_cons, List.any_cons]
   by_cases hl : (t[i]).toNat < 128
   · rw [dec_low (by rw [get_at hi]; exact hl), get_at hi]
     simp only []
     rw [runes_any t f (i + 1) (by omega)]; rfl
   · have h1 := dec_high (s := ⟨t.toArray⟩) (i := i) (by rw [get_at hi]; exact hl)
     have e1 : badR (Utf8.decode ⟨t.toArray⟩ i).1 = true := by unfold badR; simp; omega
     have e2 : badB t[i] = true := by unfold badB badR; simp; omega
     rw [e1, e2]; rfl
theorem textOk_runes (t : Bs) : textOk t = (decide (t.length ≤ 200) && !(runesS ⟨t.toArray⟩).any badR) := by
 have hsz : (⟨t.toArray⟩ : ByteArray).size = t.length := by simp [ByteArray.size]
 rw [runesS, hsz, runes_any t t.length 0 (by omega), zCu, zBm, textOk_iff]
 simp only [zA2, dEt, zAz, List.any_eq_false]
 refine and_congr_right fun _ => ⟨fun h c hc => ?_, fun h c hc => ?_⟩
 · have := h c hc
   unfold badB badR; simp; omega
 · have := h c hc
   unfold badB badR at this; simp at this; omega
theorem badF (r : Nat) : PCall Tryz.prog 89 [.prim (.int .i32 (r : Int))] (.b (badR r)) := by
 refine PCall.body Tryz.func89 rfl rfl Tryz.ntmps89 rfl rfl ?_
 repeat' (first | refine aoQ rfl rfl rfl (fun hg => by first | exact std0 | exact std1) (by exact rfl) ?_ | refine sqW ?_ | refine rgK (fun K' hK => ?_) | (refine aoN (hK _ _ ?_); clear hK K') | refine aoE (bxW rfl rfl rfl rfl rfl tI rfl rfl ?_) | refine aoE (stW tabOk rfl rfl rfl tI rfl rfl tI rfl rfl rfl rfl rfl rfl rfl ?_) | refine aoE (alW tabOk rfl rfl rfl rfl rfl rfl ?_) | refine cdN rfl tI (fun hc => ?_) (fun hc => ?_) | refine blK ?_ | refine exW ?_ | refine skW ?_ | refine rtW ?_ | refine dK2 (by decide +kernel) (by kernel_rfl) (by decide +kernel) rfl (fun K' hK => ?_) | refine dL2 (by kernel_rfl) (by decide +kernel) rfl (fun K' hK => ?_) | (refine aqN (hK _ ?_); clear hK K') | refine aqN ?_ | refine aqQ rfl rfl (fun hg => by first | exact std0 | exact std1) (by exact rfl) ?_)
 refine ⟨.inr rfl, Ent.b ?_⟩
 unfold badR
 show (decide ((r : Int) < 32) || decide ((r : Int) > 126)) = _
 rw [zBm]; simp; omega
def idxR (rs : List Nat) : Int := if rs.any badR then ((rs.findIdx badR : Nat) : Int) else -1
theorem index_spec (rs : List Nat) (hl : rs.length ≤ 9223372036854775807) : PCall Tryz.prog 126 [.sl 1 (rs.map r4) .no, .fn (.func 89) [] []] (.int (idxR rs)) := by
 refine PCall.body Tryz.func126 rfl rfl Tryz.ntmps126 rfl rfl ?_
 repeat' (first | refine aoQ rfl rfl rfl (fun hg => by first | exact std0 | exact std1) (by exact rfl) ?_ | refine sqW ?_ | refine rgK (fun K' hK => ?_) | (refine aoN (hK _ _ ?_); clear hK K') | refine aoE (bxW rfl rfl rfl rfl rfl tI rfl rfl ?_) | refine aoE (stW tabOk rfl rfl rfl tI rfl rfl tI rfl rfl rfl rfl rfl rfl rfl ?_) | refine aoE (alW tabOk rfl rfl rfl rfl rfl rfl ?_) | refine cdN rfl tI (fun hc => ?_) (fun hc => ?_) | refine blK ?_ | refine exW ?_ | refine skW ?_ | refine rtW ?_ | refine dK2 (by decide +kernel) (by kernel_rfl) (by decide +kernel) rfl (fun K' hK => ?_) | refine dL2 (by kernel_rfl) (by decide +kernel) rfl (fun K' hK => ?_) | (refine aqN (hK _ ?_); clear hK K') | refine aqN ?_ | refine aqQ rfl rfl (fun hg => by first | exact std0 | exact std1) (by exact rfl) ?_)
 refine lpW (ι := Nat) (fun k => [(0, .sl 1 (rs.map r4) .no), (1, .fn (.func 89) [] []), (7, .int rs.length), (8, .int k)]) (fun _ => []) (fun k => k ≤ rs.length ∧ ∀ (j : Nat) (h : j < rs.length), j < k → badR rs[j] = false) (fun k => rs.length - k) 0 ⟨nZl _, fun j _ h => absurd h (by omega)⟩ ⟨rfl, rfl, rfl, rfl, tI⟩ rfl ?_
 rintro k ⟨hk, hall⟩
 have hv := badF (rs.getD k default)
 by_cases hlt : k < rs.length
 · repeat' (first | refine aoQ rfl rfl rfl (fun hg => by first | exact std0 | exact pcW (hv) rfl rfl nd rfl nds | exact std1) (by exact rfl) ?_ | refine sqW ?_ | refine rgK (fun K' hK => ?_) | (refine aoN (hK _ _ ?_); clear hK K') | refine aoE (bxW rfl rfl rfl rfl rfl tI rfl rfl ?_) | refine aoE (stW tabOk rfl rfl rfl tI rfl rfl tI rfl rfl rfl rfl rfl rfl rfl ?_) | refine aoE (alW tabOk rfl rfl rfl rfl rfl rfl ?_) | refine cdN rfl tI (fun hc => ?_) (fun hc => ?_) | refine blK ?_ | refine exW ?_ | refine skW ?_ | refine rtW ?_ | refine dK2 (by decide +kernel) (by kernel_rfl) (by decide +kernel) rfl (fun K' hK => ?_) | refine dL2 (by kernel_rfl) (by decide +kernel) rfl (fun K' hK => ?_) | (refine aqN (hK _ ?_); clear hK K') | refine aqN ?_ | refine aqQ rfl rfl (fun hg => by first | exact std0 | exact pcW (hv) rfl rfl nd rfl nds | exact std1) (by exact rfl) ?_)
   · refine ⟨.inr rfl, Ent.int ?_⟩
     have hc' : badR rs[k] = true := by rw [← getD_lt hlt]; exact hc
     have h1 : rs.findIdx badR = k := (List.findIdx_eq hlt).2 ⟨hc', fun j hj => hall j (by omega) hj⟩
     unfold idxR
     rw [if_pos (zCx.2 ⟨rs[k], lGm hlt, hc'⟩), h1]
   · have hc' : badR rs[k] = false := by rw [← getD_lt hlt]; exact hc
     refine ⟨k + 1, ⟨by omega, fun j h hj => ?_⟩, by omega, ⟨rfl, rfl, rfl, rfl, tI⟩, rfl⟩
     rcases Nat.lt_succ_iff_lt_or_eq.1 hj with h1 | h1
     · exact hall j h h1
     · subst h1; exact hc'
   · exfalso; omega
 · repeat' (first | refine aoQ rfl rfl rfl (fun hg => by first | exact std0 | exact std1) (by exact rfl) ?_ | refine sqW ?_ | refine rgK (fun K' hK => ?_) | (refine aoN (hK _ _ ?_); clear hK K') | refine aoE (bxW rfl rfl rfl rfl rfl tI rfl rfl ?_) | refine aoE (stW tabOk rfl rfl rfl tI rfl rfl tI rfl rfl rfl rfl rfl rfl rfl ?_) | refine aoE (alW tabOk rfl rfl rfl rfl rfl rfl ?_) | refine cdN rfl tI (fun hc => ?_) (fun hc => ?_) | refine blK ?_ | refine exW ?_ | refine skW ?_ | refine rtW ?_ | refine dK2 (by decide +kernel) (by kernel_rfl) (by decide +kernel) rfl (fun K' hK => ?_) | refine dL2 (by kernel_rfl) (by decide +kernel) rfl (fun K' hK => ?_) | (refine aqN (hK _ ?_); clear hK K') | refine aqN ?_ | refine aqQ rfl rfl (fun hg => by first | exact std0 | exact std1) (by exact rfl) ?_)
   all_goals (first | (exfalso; omega) | skip)
   refine ⟨.inr rfl, Ent.int ?_⟩
   unfold idxR
   rw [if_neg]
   intro h
   obtain ⟨x, hx, hb⟩ := zCx.1 h
   obtain ⟨j, hj, rfl⟩ := zBq.1 hx
   rw [hall j hj (by omega)] at hb; cases hb
theorem contains_spec (rs : List Nat) (hl : rs.length ≤ 9223372036854775807) : PCall Tryz.prog 92 [.sl 1 (rs.map r4) .no, .fn (.func 89) [] []] (.b (rs.any badR)) := by
 have hv := index_spec rs hl
 refine PCall.body Tryz.func92 rfl rfl Tryz.ntmps92 rfl rfl ?_
 repeat' (first | refine aoQ rfl rfl rfl (fun hg => by first | exact std0 | exact pcW (hv) rfl rfl nd rfl nds | exact std1) (by exact rfl) ?_ | refine sqW ?_ | refine rgK (fun K' hK => ?_) | (refine aoN (hK _ _ ?_); clear hK K') | refine aoE (bxW rfl rfl rfl rfl rfl tI rfl rfl ?_) | refine aoE (stW tabOk rfl rfl rfl tI rfl rfl tI rfl rfl rfl rfl rfl rfl rfl ?_) | refine aoE (alW tabOk rfl rfl rfl rfl rfl rfl ?_) | refine cdN rfl tI (fun hc => ?_) (fun hc => ?_) | refine blK ?_ | refine exW ?_ | refine skW ?_ | refine rtW ?_ | refine dK2 (by decide +kernel) (by kernel_rfl) (by decide +kernel) rfl (fun K' hK => ?_) | refine dL2 (by kernel_rfl) (by decide +kernel) rfl (fun K' hK => ?_) | (refine aqN (hK _ ?_); clear hK K') | refine aqN ?_ | refine aqQ rfl rfl (fun hg => by first | exact std0 | exact pcW (hv) rfl rfl nd rfl nds | exact std1) (by exact rfl) ?_)
 refine ⟨.inr rfl, Ent.b ?_⟩
 unfold idxR
 cases rs.any badR with
 | true => rw [if_pos rfl]; simp
 | false => rfl
end Go.Proofs.YtbneeinknlddaaaGreat
namespace Go.Ab
section
variable {P : Program} {n : Nat} {ops : Array Oper} {o : Oper} {env : Env} {σ : Store} {k : Env → Store → Prop}
theorem EStep.insert {κ α : Type} [DecidableEq κ] {ek : κ → Value} {ev : α → AV} {t kt et : TypeId} {m x y : Operand} {l : Nat} {al : List (κ × α)} {key : κ} {v : α} {uk : AV} {s1 b1 : Nat} {z : List Z}
 (K : KeyLaw P kt ek) (hl : LOk P t ⟨.map kt et, s1, b1, z⟩) (ho : o.op = .insert t m x y) (hg : o.guard = none) (hdn : dstOk n o = true) (hm : Rd env m (.map l)) (hσ : σ[l]? = some (.map (encM ek ev al)))
 (hx : Rd env x uk) (hex : exactV uk = some (ek key)) (hy : Rd env y (ev v)) (hk : k (env.putO o.dst .any) (σ.set l (.map (encM ek ev (ins al key v))))) : EStep P n ops o k env σ := by
 have h := EStep.mapUpd (ops := ops) (o := { o with op := .mapUpdate t m x y }) (k := k) K hl rfl hg hdn hm hσ hx hex hy hk
 intro G a w hr
 have h1 := h G a w hr
 have e1 : Region.wanted { o with op := .mapUpdate t m x y } (yielded ops a.tmps) = Region.wanted o (yielded ops a.tmps) := rfl
 have e2 : execOp a.eval { o with op := .mapUpdate t m x y } = execOp a.eval o := by simp only [execOp, ho]
 rw [e1] at h1
 have e3 : Region.wanted o (yielded ops a.tmps) = true := by simp [Region.wanted, hg]
 rw [if_pos e3] at h1 ⊢
 unfold OWP at h1 ⊢
 rw [e2] at h1
 exact h1
end
end Go.Ab
namespace Go.Proofs.YtbneeinknlddaaaGreat
open Go.Ab Go.Jo
attribute [local irreducible] AWP AOps EStep AQ PStep PRun PCall TCall VCall DStep TDies AWD DCall
abbrev ekI (n : Int) : Value := .int .i64 n
def layF : Nat → AV
 | 0 => .agg [.prim .nilFunc, .prim .nilFunc]
 | 1 => .agg [.fn (.func 118) [] [], .fn (.func 119) [] []]
 | 2 => .agg [.fn (.func 120) [] [], .fn (.func 121) [] []]
 | 3 => .agg [.fn (.func 122) [] [], .fn (.func 123) [] []]
 | _ => .agg [.fn (.func 124) [] [], .fn (.func 125) [] []]
theorem lay2_spec (r : Rdr) : PCall Tryz.prog 120 [.agg (encRd r)] (.b (byOk 2 r)) := by
 have v := mrdr_spec ⟨r.part, r.desk, 1⟩
 refine PCall.body Tryz.func120 rfl rfl Tryz.ntmps120 rfl rfl ?_
 repeat' (first | refine aoQ rfl rfl rfl (fun hg => by first | exact std0 | exact pcW (v) rfl rfl nd rfl nds | exact pbD tabOk rfl rfl nds | exact std1) (by exact rfl) ?_ | refine sqW ?_ | refine rgK (fun K' hK => ?_) | (refine aoN (hK _ _ ?_); clear hK K') | refine aoE (bxW rfl rfl rfl rfl rfl tI rfl rfl ?_) | refine aoE (stW tabOk rfl rfl rfl tI rfl rfl tI rfl rfl rfl rfl rfl rfl rfl ?_) | refine aoE (alW tabOk rfl rfl rfl rfl rfl rfl ?_) | refine cdN rfl tI (fun hc => ?_) (fun hc => ?_) | refine blK ?_ | refine exW ?_ | refine skW ?_ | refine rtW ?_ | refine dK2 (by decide +kernel) (by kernel_rfl) (by decide +kernel) rfl (fun K' hK => ?_) | refine dL2 (by kernel_rfl) (by decide +kernel) rfl (fun K' hK => ?_) | (refine aqN (hK _ ?_); clear hK K') | refine aqN ?_ | refine aqQ rfl rfl (fun hg => by first | exact std0 | exact pcW (v) rfl rfl nd rfl nds | exact pbD tabOk rfl rfl nds | exact std1) (by exact rfl) ?_)
 refine ⟨.inr rfl, Ent.b ?_⟩
 simp [byOk, isRdr, inR]
 cases r.seat == 0 <;> simp
theorem lay4_spec (r : Rdr) : PCall Tryz.prog 122 [.agg (encRd r)] (.b (byOk 3 r)) := by
 refine PCall.body Tryz.func122 rfl rfl Tryz.ntmps122 rfl rfl ?_
 repeat' (first | refine aoQ rfl rfl rfl (fun hg => by first | exact std0 | exact pcW (mwithin_spec _ _ _) rfl rfl nd rfl nds | exact std1) (by exact rfl) ?_ | refine sqW ?_ | refine rgK (fun K' hK => ?_) | (refine aoN (hK _ _ ?_); clear hK K') | refine aoE (bxW rfl rfl rfl rfl rfl tI rfl rfl ?_) | refine aoE (stW tabOk rfl rfl rfl tI rfl rfl tI rfl rfl rfl rfl rfl rfl rfl ?_) | refine aoE (alW tabOk rfl rfl rfl rfl rfl rfl ?_) | refine cdN rfl tI (fun hc => ?_) (fun hc => ?_) | refine blK ?_ | refine exW ?_ | refine skW ?_ | refine rtW ?_ | refine dK2 (by decide +kernel) (by kernel_rfl) (by decide +kernel) rfl (fun K' hK => ?_) | refine dL2 (by kernel_rfl) (by decide +kernel) rfl (fun K' hK => ?_) | (refine aqN (hK _ ?_); clear hK K') | refine aqN ?_ | refine aqQ rfl rfl (fun hg => by first | exact std0 | exact pcW (mwithin_spec _ _ _) rfl rfl nd rfl nds | exact std1) (by exact rfl) ?_)
 refine ⟨.inr rfl, Ent.b ?_⟩
 simp [byOk]
 cases inR r.part 0 99 <;> simp
theorem lay6_spec (r : Rdr) : PCall Tryz.prog 124 [.agg (encRd r)] (.b (byOk 4 r)) := by
 refine PCall.body Tryz.func124 rfl rfl Tryz.ntmps124 rfl rfl ?_
 repeat' (first | refine aoQ rfl rfl rfl (fun hg => by first | exact std0 | exact pbD tabOk rfl rfl nds | exact PRun.eqN flR rfl rfl nd rfl nd rfl | exact std1) (by exact rfl) ?_ | refine sqW ?_ | refine rgK (fun K' hK => ?_) | (refine aoN (hK _ _ ?_); clear hK K') | refine aoE (bxW rfl rfl rfl rfl rfl tI rfl rfl ?_) | refine aoE (stW tabOk rfl rfl rfl tI rfl rfl tI rfl rfl rfl rfl rfl rfl rfl ?_) | refine aoE (alW tabOk rfl rfl rfl rfl rfl rfl ?_) | refine cdN rfl tI (fun hc => ?_) (fun hc => ?_) | refine blK ?_ | refine exW ?_ | refine skW ?_ | refine rtW ?_ | refine dK2 (by decide +kernel) (by kernel_rfl) (by decide +kernel) rfl (fun K' hK => ?_) | refine dL2 (by kernel_rfl) (by decide +kernel) rfl (fun K' hK => ?_) | (refine aqN (hK _ ?_); clear hK K') | refine aqN ?_ | refine aqQ rfl rfl (fun hg => by first | exact std0 | exact pbD tabOk rfl rfl nds | exact PRun.eqN flR rfl rfl nd rfl nd rfl | exact std1) (by exact rfl) ?_)
 refine ⟨.inr rfl, Ent.b ?_⟩
 simp [byOk, Bool.and_assoc]
theorem pureFn {M : Mem} {B : List GB} {f : Fn} {x : Value} (h : VRel M B (.fn f [] []) x) : VRel M [] (.fn f [] []) x := by
 cases h with
 | fn _ _ _ vf vc hvf hvc q1 q2 => exact .fn _ _ _ vf vc hvf hvc (fun i c h => by simp at h) (fun i c h => by simp at h)
theorem pureLay : PureE layF := fun a M B x h => by
 have two : ∀ (u v : AV), (∀ M B x, VRel M B u x → VRel M [] u x) → (∀ M B x, VRel M B v x → VRel M [] v x) → VRel M B (.agg [u, v]) x → VRel M [] (.agg [u, v]) x := fun u v hu hv h => by
  cases h with
  | agg _ c hl hr =>
    refine .agg _ c hl fun i w hi => ?_
    match i, hi with
    | 0, hi => have := hr 0 w hi; simp at hi; subst hi; exact hu _ _ _ this
    | 1, hi => have := hr 1 w hi; simp at hi; subst hi; exact hv _ _ _ this
    | i + 2, hi => simp at hi
 have hp : ∀ v M B x, VRel M B (.prim v) x → VRel M [] (.prim v) x := fun v M B x h => by rw [VRel.prim_eq h]; exact .prim _
 match a, h with
 | 0, h => exact two _ _ (hp _) (hp _) h
 | 1, h => exact two _ _ (fun _ _ _ => pureFn) (fun _ _ _ => pureFn) h
 | 2, h => exact two _ _ (fun _ _ _ => pureFn) (fun _ _ _ => pureFn) h
 | 3, h => exact two _ _ (fun _ _ _ => pureFn) (fun _ _ _ => pureFn) h
 | (_ + 4), h => exact two _ _ (fun _ _ _ => pureFn) (fun _ _ _ => pureFn) h
theorem layers_spec : PCall Tryz.prog 88 [] (.imap (Go.Ab.encM ekI layF [(1, 1), (2, 2), (3, 3), (4, 4)])) := by
 refine PCall.body Tryz.func88 rfl rfl Tryz.ntmps88 rfl rfl ?_
 repeat' (first | refine aoQ rfl rfl rfl (fun hg => by first | exact std0 | exact pbD tabOk rfl rfl nds | exact std1) (by exact rfl) ?_ | refine sqW ?_ | refine rgK (fun K' hK => ?_) | (refine aoN (hK _ _ ?_); clear hK K') | refine aoE (bxW rfl rfl rfl rfl rfl tI rfl rfl ?_) | refine aoE (stW tabOk rfl rfl rfl tI rfl rfl tI rfl rfl rfl rfl rfl rfl rfl ?_) | refine aoE (alW tabOk rfl rfl rfl rfl rfl rfl ?_) | refine aoE (EStep.makeMapW rfl rfl rfl rfl ?_) | refine aoE (EStep.insert (ek := ekI) (ev := layF) (al := []) (v := 1) (keyLaw_int (LOk.of (tabOk.get rfl))) (LOk.of (tabOk.get rfl)) rfl rfl rfl (Rd.w rfl tI) rfl (Rd.w rfl tI) rfl (Rd.w rfl tI) ?_) | refine aoE (EStep.insert (ek := ekI) (ev := layF) (v := 2) (keyLaw_int (LOk.of (tabOk.get rfl))) (LOk.of (tabOk.get rfl)) rfl rfl rfl (Rd.w rfl tI) rfl (Rd.w rfl tI) rfl (Rd.w rfl tI) ?_) | refine aoE (EStep.insert (ek := ekI) (ev := layF) (v := 3) (keyLaw_int (LOk.of (tabOk.get rfl))) (LOk.of (tabOk.get rfl)) rfl rfl rfl (Rd.w rfl tI) rfl (Rd.w rfl tI) rfl (Rd.w rfl tI) ?_) | refine aoE (EStep.insert (ek := ekI) (ev := layF) (v := 4) (keyLaw_int (LOk.of (tabOk.get rfl))) (LOk.of (tabOk.get rfl)) rfl rfl rfl (Rd.w rfl tI) rfl (Rd.w rfl tI) rfl (Rd.w rfl tI) ?_) | refine cdN rfl tI (fun hc => ?_) (fun hc => ?_) | refine blK ?_ | refine exW ?_ | refine skW ?_ | refine dK2 (by decide +kernel) (by kernel_rfl) (by decide +kernel) rfl (fun K' hK => ?_) | refine dL2 (by kernel_rfl) (by decide +kernel) rfl (fun K' hK => ?_) | (refine aqN (hK _ ?_); clear hK K') | refine aqN ?_ | refine aqQ rfl rfl (fun hg => by first | exact std0 | exact pbD tabOk rfl rfl nds | exact std1) (by exact rfl) ?_)
 refine AWP.freezeMap (ek := ekI) (ev := layF) (al := [(1, 1), (2, 2), (3, 3), (4, 4)]) (l := 0) rfl pureLay ?_
 refine rtW ⟨.inr rfl, ?_⟩
 exact fun _ _ h => h
end Go.Proofs.YtbneeinknlddaaaGreat
