/- Contracts by content: the reference of align: alike, the notes of a bar, the same music, what it costs.  Contracts by content: align: isLong, arePairs, cost. No statement is proved here. -/
import Derived.Test.YtekfpcgagoidcaaGreatDoorU15
import Derived.Test.YtekfpcgagoidcaaGreatDoorU16
import Derived.Test.YtekfpcgagoidcaaGreatDoorU17
set_option linter.unusedVariables false
set_option linter.unusedSimpArgs false
namespace Go.Proofs.YtekfpcgagoidcaaGreatDoor.Al
open Go.Ab Go.Sort
attribute [local irreducible] AWP AOps EStep AQ PStep PRun PCall TCall VCall
theorem flRtA : flatN Tryz.prog 52 = some [.int .i64, .int .i64] := by kernel_rfl
def eqRa (a b : Go.Proofs.YtekfpcgagoidcaaGreatDoor.Rat) : Bool := a.n == b.n && (a.d == b.d && true)
theorem eqRa_eq (a b : Go.Proofs.YtekfpcgagoidcaaGreatDoor.Rat) : eqRa a b = (a == b) := by
 unfold eqRa
 rw [zB4]
 obtain ⟨a1, a2⟩ := a
 obtain ⟨b1, b2⟩ := b
 simp
theorem alike_sub (x y : Note) : eqNo { x with id := y.id, bar := y.bar } y = alike x y := by
 rw [eqNo_eq]
 unfold alike bareN
 rw [zB4]
 obtain ⟨a1, a2, a3, a4, a5, ⟨a6, a7⟩, ⟨a8, a9⟩, ⟨a10, a11, a12⟩⟩ := x
 obtain ⟨b1, b2, b3, b4, b5, ⟨b6, b7⟩, ⟨b8, b9⟩, ⟨b10, b11, b12⟩⟩ := y
 simp
theorem alike12_spec (x y : Note) : PCall Tryz.prog 124 [.agg (encN x), .agg (encN y)] (.b (alike x y)) := by
 refine PCall.body Tryz.func124 rfl rfl Tryz.ntmps124 rfl rfl ?_
 repeat' (first | refine aoQ rfl rfl rfl (fun hg => by first | exact std0 | exact PRun.eqN flN rfl rfl nd rfl nd rfl) (by exact rfl) ?_ | refine sqW ?_ | refine rgK (fun K' hK => ?_) | (refine aoN (hK _ _ ?_); clear hK K') | refine aoE (bxW rfl rfl rfl rfl rfl tI rfl rfl ?_) | refine aoE (stW tabOk rfl rfl rfl tI rfl rfl tI rfl rfl rfl rfl rfl rfl rfl ?_) | refine rtW ?_)
 exact ⟨.inr rfl, Ent.b (alike_sub x y)⟩
theorem inBar_take {l : List Note} {id : Int} {k : Nat} (h : k < l.length) : (l.take (k + 1)).filter (fun n => n.bar == id) = if (l.getD k default).bar == id then (l.take k).filter (fun n => n.bar == id) ++ [l.getD k default] else (l.take k).filter (fun n => n.bar == id) := by
 rw [takeS h, zC1]
 split
 · rename_i h2; rw [zBh (by exact h2)]; rfl
 · rename_i h2; rw [zBi (by exact h2)]; simp
set_option maxRecDepth 20000 in
theorem in12_spec (s : Score) (hs : s.Small) (i : Nat) (hi : i < s.bars.length) : PCall Tryz.prog 65 [.agg (encS s), .int i] (.sl 12 ((inBar s (barI s i).id).map encN) .no) := by
 have h1 := hs.1
 have h2 := hs.2.2
 refine PCall.body Tryz.func65 rfl rfl Tryz.ntmps65 rfl rfl ?_
 repeat' (first | refine aoQ rfl rfl rfl (fun hg => by exact std0) (by exact rfl) ?_ | refine sqW ?_ | refine rgK (fun K' hK => ?_) | (refine aoN (hK _ _ ?_); clear hK K') | refine aoE (bxW rfl rfl rfl rfl rfl tI rfl rfl ?_) | refine blK ?_)
 refine AWP.ownNil (d := 5) (sz := 12) rfl ?_
 refine lpD (ι := Nat) (fun k => [(1, .int i), (2, .ptr 0 0), (5, .sl 12 (((s.notes.take k).filter (fun n => n.bar == (barI s i).id)).map encN) (.own 1)), (6, .int k)]) (fun k => [.var (encS s), .own 12 (((s.notes.take k).filter (fun n => n.bar == (barI s i).id)).map encN).length])
  (fun k => k ≤ s.notes.length) (fun k => s.notes.length - k) 2 (fun _ => rfl) 0 (nZl _) ⟨rfl, rfl, rfl, rfl, tI⟩ rfl (fun _ _ => rfl) (fun _ _ => rfl) ?_
 intro k hk
 have hlen : ((s.notes.take k).filter (fun n => n.bar == (barI s i).id)).length ≤ 1000000000 := by
  have := zBf (fun n : Note => n.bar == (barI s i).id) (s.notes.take k)
  rw [zAl] at this; omega
 by_cases hlt : k < s.notes.length
 · have ht := inBar_take (id := (barI s i).id) hlt
   obtain ⟨n, hn⟩ : ∃ n, s.notes.getD k default = n := ⟨_, rfl⟩
   rw [hn] at ht
   have hb : s.bars.getD ((i : Nat) : Int).toNat default = barI s i := rfl
   repeat' (first | refine aoQ rfl rfl rfl (fun hg => by first | exact iX encN s.notes ((k : Nat) : Int) hn (hb := by omega) | exact std0 | exact pbS tabOk rfl rfl nds | exact std1) (by exact rfl) ?_ | refine sqW ?_ | refine rgK (fun K' hK => ?_) | (refine aoN (hK _ _ ?_); clear hK K') | refine aoE (apO tabOk rfl rfl rfl (by decide) (Rd.w rfl tI) rfl (Rd.w rfl tI) (.sl rfl (by first | (intro x hx; rcases zAn.1 hx with rfl; rfl) | exact one_encN _)) (LOk.of (tabOk.get rfl)) (LOk.of (tabOk.get rfl)) rfl rfl (by simp only [lLm, lLa, zA8, zAg, zAl, zAx]; omega) (by simp only [lLm, lLa, zA8, zAg, zAl, zAx]; omega) ?_) | refine cdN rfl tI (fun hc => ?_) (fun hc => ?_) | refine blK ?_ | refine exW ?_ | refine skW ?_ | refine rtW ?_ | refine dK2 (by decide +kernel) (by kernel_rfl) (by decide +kernel) rfl (fun K' hK => ?_) | (refine aqN (hK _ ?_); clear hK K') | refine aqQ rfl rfl (fun hg => by first | exact iX encB s.bars ((i : Nat) : Int) hb (hb := by omega) | exact iX encN s.notes ((k : Nat) : Int) hn (hb := by omega) | exact std0) (by exact rfl) ?_)
   all_goals (first | (exfalso; omega) | skip)
   · rw [if_pos hc] at ht
     refine ⟨k + 1, by omega, by omega, ⟨rfl, rfl, ?_, rfl, tI⟩, ?_⟩
     · rw [ht, zAs]; rfl
     · rw [ht, zAs]; rfl
   · rw [if_neg (show ¬ ((n.bar == (barI s i).id) = true) by rw [show (n.bar == (barI s i).id) = false from hc]; decide)] at ht
     refine ⟨k + 1, by omega, by omega, ⟨rfl, rfl, ?_, rfl, tI⟩, ?_⟩
     · rw [ht]; rfl
     · rw [ht]; rfl
 · repeat' (first | refine aoQ rfl rfl rfl (fun hg => by first | exact std0 | exact std1) (by exact rfl) ?_ | refine sqW ?_ | refine rgK (fun K' hK => ?_) | (refine aoN (hK _ _ ?_); clear hK K') | refine cdN rfl tI (fun hc => ?_) (fun hc => ?_) | refine blK ?_ | refine exW ?_ | refine skW ?_ | refine rtW ?_ | refine dK2 (by decide +kernel) (by kernel_rfl) (by decide +kernel) rfl (fun K' hK => ?_) | (refine aqN (hK _ ?_); clear hK K') | refine aqQ rfl rfl (fun hg => by first | exact std0 | exact std1) (by exact rfl) ?_)
   all_goals (first | (exfalso; omega) | skip)
   refine ⟨.inr rfl, Ent.of ?_⟩
   rw [zAt (by omega)]; rfl
theorem cntL_take {l : List Note} {n : Note} {k : Nat} (h : k < l.length) : cntL (l.take (k + 1)) n = if alike (l.getD k default) n then cntL (l.take k) n + 1 else cntL (l.take k) n := by
 rw [takeS h]; unfold cntL
 rw [List.countP_append]
 simp [List.countP_cons]
 split <;> rfl
theorem count12_spec (l : List Note) (hl : l.length ≤ 1000000000) (n : Note) : PCall Tryz.prog 122 [.sl 12 (l.map encN) .no, .agg (encN n)] (.int (cntL l n)) := by
 refine PCall.body Tryz.func122 rfl rfl Tryz.ntmps122 rfl rfl ?_
 repeat' (first | refine aoQ rfl rfl rfl (fun hg => by exact std0) (by exact rfl) ?_ | refine sqW ?_ | refine rgK (fun K' hK => ?_) | (refine aoN (hK _ _ ?_); clear hK K') | refine aoE (bxW rfl rfl rfl rfl rfl tI rfl rfl ?_) | refine blK ?_)
 refine lpD (ι := Nat) (fun k => [(0, .sl 12 (l.map encN) .no), (3, .ptr 0 0), (5, .int (cntL (l.take k) n)), (6, .int k)]) (fun _ => [.var (encN n)]) (fun k => k ≤ l.length) (fun k => l.length - k) 1 (fun _ => rfl) 0 (nZl _) ⟨rfl, rfl, rfl, rfl, tI⟩ rfl (fun _ _ => rfl) (fun _ _ => rfl) ?_
 intro k hk
 by_cases hlt : k < l.length
 · have ht := cntL_take (n := n) hlt
   have hle : cntL (l.take k) n ≤ 1000000000 := by
    have := List.countP_le_length (p := fun x => alike x n) (l := l.take k)
    rw [zAl] at this
    unfold cntL; omega
   obtain ⟨m, hm⟩ : ∃ m, l.getD k default = m := ⟨_, rfl⟩
   rw [hm] at ht
   have ha := alike12_spec m n
   generalize cntL (l.take k) n = c at *
   repeat' (first | refine aoQ rfl rfl rfl (fun hg => by first | exact std0 | exact std1) (by exact rfl) ?_ | refine sqW ?_ | refine rgK (fun K' hK => ?_) | (refine aoN (hK _ _ ?_); clear hK K') | refine cdN rfl tI (fun hc => ?_) (fun hc => ?_) | refine blK ?_ | refine exW ?_ | refine skW ?_ | refine rtW ?_ | refine dK2 (by decide +kernel) (by kernel_rfl) (by decide +kernel) rfl (fun K' hK => ?_) | (refine aqN (hK _ ?_); clear hK K') | refine aqQ rfl rfl (fun hg => by first | exact iX encN l ((k : Nat) : Int) hm (hb := by omega) | exact std0 | exact pcW (ha) rfl rfl nd rfl nds) (by exact rfl) ?_)
   all_goals (first | (exfalso; omega) | skip)
   · rw [if_pos hc] at ht
     exact ⟨k + 1, by omega, by omega, ⟨rfl, rfl, (by rw [ht]; rfl), rfl, tI⟩, rfl⟩
   · rw [if_neg (by rw [hc]; decide)] at ht
     exact ⟨k + 1, by omega, by omega, ⟨rfl, rfl, (by rw [ht]; rfl), rfl, tI⟩, rfl⟩
 · repeat' (first | refine aoQ rfl rfl rfl (fun hg => by first | exact std0 | exact std1) (by exact rfl) ?_ | refine sqW ?_ | refine rgK (fun K' hK => ?_) | (refine aoN (hK _ _ ?_); clear hK K') | refine cdN rfl tI (fun hc => ?_) (fun hc => ?_) | refine blK ?_ | refine exW ?_ | refine skW ?_ | refine rtW ?_ | refine dK2 (by decide +kernel) (by kernel_rfl) (by decide +kernel) rfl (fun K' hK => ?_) | refine aqQ rfl rfl (fun hg => by first | exact std0 | exact std1) (by exact rfl) ?_)
   all_goals (first | (exfalso; omega) | skip)
   refine ⟨.inr rfl, Ent.of ?_⟩
   rw [zAt (by omega)]; rfl
theorem music12_spec (a b : List Note) (ha : a.length ≤ 1000000000) (hb : b.length ≤ 1000000000) : PCall Tryz.prog 92 [.sl 12 (a.map encN) .no, .sl 12 (b.map encN) .no] (.b (sameMu a b)) := by
 rw [← music_eq]
 refine PCall.body Tryz.func92 rfl rfl Tryz.ntmps92 rfl rfl ?_
 repeat' (first | refine aoQ rfl rfl rfl (fun hg => by first | exact std0 | exact std1) (by exact rfl) ?_ | refine sqW ?_ | refine rgK (fun K' hK => ?_) | (refine aoN (hK _ _ ?_); clear hK K') | refine cdN rfl tI (fun hc => ?_) (fun hc => ?_) | refine blK ?_ | refine skW ?_ | refine rtW ?_)
 · refine ⟨.inr rfl, Ent.b ?_⟩
   rw [decide_eq_false (by intro h; simp only [zA2, zAi, zA0, zA5, zAf, dEt, dEf, zAh, zAe, beq_iff_eq, beq_eq_false_iff_ne, bne_iff_ne, bne_eq_false_iff_eq, gt_iff_lt, ge_iff_le, ne_eq] at hc; omega)]; rfl
 have hlen : a.length = b.length := by simp only [zA2, zAi, zA0, zA5, zAf, dEt, dEf, zAh, zAe, beq_iff_eq, beq_eq_false_iff_ne, bne_iff_ne, bne_eq_false_iff_eq, gt_iff_lt, ge_iff_le, ne_eq] at hc; omega
 rw [decide_eq_true hlen, zC6]
 refine lpW (ι := Nat) (fun k => [(0, .sl 12 (a.map encN) .no), (1, .sl 12 (b.map encN) .no), (5, .int k)]) (fun _ => []) (fun k => k ≤ a.length ∧ ∀ j, j < k → decide (cntL a (a.getD j default) = cntL b (a.getD j default)) = true) (fun k => a.length - k) 0 ⟨nZl _, fun j h => absurd h (by omega)⟩ ⟨rfl, rfl, rfl, tI⟩ rfl ?_
 rintro k ⟨hk, hall⟩
 by_cases hlt : k < a.length
 · obtain ⟨m, hm⟩ : ∃ m, a.getD k default = m := ⟨_, rfl⟩
   have c1 := count12_spec a ha m
   have c2 := count12_spec b hb m
   clear hc
   repeat' (first | refine aoQ rfl rfl rfl (fun hg => by first | exact std0 | exact std1) (by exact rfl) ?_ | refine sqW ?_ | refine rgK (fun K' hK => ?_) | (refine aoN (hK _ _ ?_); clear hK K') | refine cdN rfl tI (fun hc => ?_) (fun hc => ?_) | refine blK ?_ | refine exW ?_ | refine skW ?_ | refine rtW ?_ | refine dK2 (by decide +kernel) (by kernel_rfl) (by decide +kernel) rfl (fun K' hK => ?_) | (refine aqN (hK _ ?_); clear hK K') | refine aqQ rfl rfl (fun hg => by first | exact iX encN a ((k : Nat) : Int) hm (hb := by omega) | exact std0 | exact pcW (c1) rfl rfl nd rfl nds | exact pcW (c2) rfl rfl nd rfl nds) (by exact rfl) ?_)
   all_goals (first | (exfalso; omega) | skip)
   · refine ⟨.inr rfl, Ent.b (Eq.symm ?_)⟩
     refine all_no (p := fun x => decide (cntL a x = cntL b x)) hlt ?_
     rw [hm]
     simp only [zA2, zAi, zA0, zA5, zAf, dEt, dEf, zAh, zAe, beq_iff_eq, beq_eq_false_iff_ne, bne_iff_ne, bne_eq_false_iff_eq, gt_iff_lt, ge_iff_le, ne_eq] at hc
     exact decide_eq_false (by omega)
   · refine ⟨k + 1, ⟨by omega, fun j hj => lt_succ_cases hall ?_ hj⟩, by omega, ⟨rfl, rfl, rfl, tI⟩, rfl⟩
     rw [hm]
     simp only [zA2, zAi, zA0, zA5, zAf, dEt, dEf, zAh, zAe, beq_iff_eq, beq_eq_false_iff_ne, bne_iff_ne, bne_eq_false_iff_eq, gt_iff_lt, ge_iff_le, ne_eq] at hc
     exact decide_eq_true (by omega)
 · repeat' (first | refine aoQ rfl rfl rfl (fun hg => by first | exact std0 | exact std1) (by exact rfl) ?_ | refine sqW ?_ | refine rgK (fun K' hK => ?_) | (refine aoN (hK _ _ ?_); clear hK K') | refine cdN rfl tI (fun hc => ?_) (fun hc => ?_) | refine blK ?_ | refine exW ?_ | refine skW ?_ | refine rtW ?_ | refine dK2 (by decide +kernel) (by kernel_rfl) (by decide +kernel) rfl (fun K' hK => ?_) | refine aqQ rfl rfl (fun hg => by first | exact std0 | exact std1) (by exact rfl) ?_)
   all_goals (first | (exfalso; omega) | skip)
   exact ⟨.inr rfl, Ent.b (Eq.symm (all_yes fun j hj => hall j (by omega)))⟩
theorem costR_is (a b : Score) (i k : Nat) : costR a b i k = if (eqBa (barI a i) (barI b k) && (sameMu (inBar a (barI a i).id) (inBar b (barI b k).id) && eqRa (barI a i).len (barI b k).len)) = true then 0 else if ((barI a i).id == (barI b k).id || ((sameMu (inBar a (barI a i).id) (inBar b (barI b k).id) && eqRa (barI a i).len (barI b k).len) && decide (((inBar a (barI a i).id).length : Int) > 0))) = true then 1 else 5 := by
 rw [eqBa_eq, eqRa_eq]
 have e : decide (((inBar a (barI a i).id).length : Int) > 0) = !(inBar a (barI a i).id).isEmpty := by
  cases inBar a (barI a i).id <;> simp
 rw [e, Bool.and_comm (sameMu _ _)]
 rfl
set_option maxHeartbeats 4000000 in
theorem cost12_spec (a b : Score) (ha : a.Small) (hb : b.Small) (i k : Nat) (hi : i < a.bars.length) (hk : k < b.bars.length) : PCall Tryz.prog 46 [.agg (encS a), .agg (encS b), .int i, .int k] (.int (costR a b i k)) := by
 have a1 := ha.1
 have a2 := ha.2.2
 have b1 := hb.1
 have b2 := hb.2.2
 have i1 := in12_spec a ha i hi
 have i2 := in12_spec b hb k hk
 have lx : (inBar a (barI a i).id).length ≤ 1000000000 := zCs (zBf _ _) a2
 have ly : (inBar b (barI b k).id).length ≤ 1000000000 := zCs (zBf _ _) b2
 have mm := music12_spec _ _ lx ly
 have ex : a.bars.getD ((i : Nat) : Int).toNat default = barI a i := rfl
 have ey : b.bars.getD ((k : Nat) : Int).toNat default = barI b k := rfl
 rw [costR_is]
 refine PCall.body Tryz.func46 rfl rfl Tryz.ntmps46 rfl rfl ?_
 repeat' (first | refine aoQ rfl rfl rfl (fun hg => by first | exact iX encB b.bars ((k : Nat) : Int) ey (hb := by omega) | exact iX encB a.bars ((i : Nat) : Int) ex (hb := by omega) | exact std0 | exact pcW (i1) rfl rfl nd rfl nds | exact pcW (i2) rfl rfl nd rfl nds | exact pcW (mm) rfl rfl nd rfl nds | exact PRun.eqN flRtA rfl rfl nd rfl nd rfl | exact PRun.eqN flBa rfl rfl nd rfl nd rfl | exact std1) (by exact rfl) ?_ | refine sqW ?_ | refine rgK (fun K' hK => ?_) | (refine aoN (hK _ _ ?_); clear hK K') | refine aoE (bxW rfl rfl rfl rfl rfl tI rfl rfl ?_) | refine aoE (stW tabOk rfl rfl rfl tI rfl rfl tI rfl rfl rfl rfl rfl rfl rfl ?_) | refine aoE (alW tabOk rfl rfl rfl rfl rfl rfl ?_) | refine cdN rfl tI (fun hc => ?_) (fun hc => ?_) | refine skW ?_ | refine rtW ?_)
 · exact ⟨.inr rfl, Ent.int (Eq.symm (if_pos hc))⟩
 · rename_i h1
   exact ⟨.inr rfl, Ent.int (Eq.symm ((if_neg (fun h => Bool.noConfusion (Eq.trans (Eq.symm (show _ = false from h1)) h))).trans (if_pos hc)))⟩
 · rename_i h1
   exact ⟨.inr rfl, Ent.int (Eq.symm ((if_neg (fun h => Bool.noConfusion (Eq.trans (Eq.symm (show _ = false from h1)) h))).trans (if_neg (fun h => Bool.noConfusion (Eq.trans (Eq.symm (show _ = false from hc)) h)))))⟩
end Go.Proofs.YtekfpcgagoidcaaGreatDoor.Al
namespace Go.Ab
theorem PRun.lookupN {P : Program} {o : Oper} {env : Env} {σ : Store} {β : Type} {ek : (Int × Int) → Value} {f : β → List AV} {sz : Nat} {t kt et : TypeId} {m x : Operand} {al : List ((Int × Int) × List β)} {key : Int × Int} {uk um : AV} {s1 b1 : Nat} {z : List Z} {le : LI}
 (K : KeyLaw P kt ek) (hl : LOk P t ⟨.map kt et, s1, b1, z⟩) (he : LOk P et le) (hz : zeroAV le = .nils) (ho : o.op = .lookup t m x false) (hm : Rd env m um)
 (hum : um = .imap (encM ek (fun l : List β => AV.sl sz (l.map f) .no) al) ∨ ∃ l, um = .map l ∧ σ[l]? = some (.map (encM ek (fun l : List β => AV.sl sz (l.map f) .no) al)))
 (hx : Rd env x uk) (hex : exactV uk = some (ek key)) : PRun P o env σ (.sl sz (((lk al key).getD []).map f) .no) := by
 have e0 : encM ek (fun l : List β => AV.sl sz (l.map f) .no) al = encM ek (fun v : Option (List β) => match v with | some l => AV.sl sz (l.map f) .no | none => .nils) (al.map fun p => (p.1, some p.2)) := by
  unfold encM; rw [zD3]; rfl
 rw [e0] at hum
 have h := PRun.lookup (ok := false) (zv := none) (ev := fun v : Option (List β) => match v with | some l => AV.sl sz (l.map f) .no | none => .nils) K hl he hz ho hm hum hx hex
 have e1 : ∀ al : List ((Int × Int) × List β), lk (al.map fun p => (p.1, some p.2)) key = (lk al key).map some := by
  intro al
  induction al with
  | nil => rfl
  | cons p r ih =>
    simp only [zBk, lk]
    split
    · rfl
    · exact ih
 refine PRun.ent h fun M B y hy => ?_
 rw [e1] at hy
 cases hk : lk al key with
 | none => rw [hk] at hy; exact EntB.nil sz M B y hy
 | some l => rw [hk] at hy; exact hy
theorem PRun.nilCheckI {P : Program} {o : Oper} {env : Env} {σ : Store} {x : Operand} {cs : List AV} (ho : o.op = .nilCheck x) (hx : rdv env x = some (.iptr cs)) (nx : rdn env x) : PRun P o env σ (.iptr cs) :=
 .of fun G A w hs hv => by
  have hX := rd (Rd.w hx nx) (by simp [ho, Op.operands]) hv
  generalize hA : A.eval x = y at hX
  cases hX with
  | iptr _ b off f hm hr => exact ⟨_, by simp [execOp, ho, hA, Instr.sureAddr], .iptr cs b off f hm hr⟩
end Go.Ab
namespace Go.Proofs.YtekfpcgagoidcaaGreatDoor.Al
open Go.Ab Go.Sort
attribute [local irreducible] AWP AOps EStep AQ PStep PRun PCall TCall VCall
def encPr (p : Int × Int) : List AV := [.int p.1, .int p.2]
def pcI (a b : Score) (x y : AV) : AV := .iptr (encS a ++ encS b ++ [x, y])
theorem isLong_spec (a b : Score) (x y : AV) (ha : a.Small) (hb : b.Small) : PCall Tryz.prog 47 [pcI a b x y] (.b (decide (a.bars.length > 200 ∨ b.bars.length > 200))) := by
 have h1 := ha.1
 have h2 := hb.1
 refine PCall.body Tryz.func47 rfl rfl Tryz.ntmps47 rfl rfl ?_
 repeat' (first | refine aoQ rfl rfl rfl (fun hg => by exact std0) (by exact rfl) ?_ | refine sqW ?_ | refine rgK (fun K' hK => ?_) | (refine aoN (hK _ _ ?_); clear hK K') | refine rtW ?_ | refine dK2 (by decide +kernel) (by kernel_rfl) (by decide +kernel) rfl (fun K' hK => ?_) | (refine aqN (hK _ ?_); clear hK K') | refine aqQ rfl rfl (fun hg => by first | exact std0 | exact PRun.nilCheckI rfl rfl nd | exact std1) (by exact rfl) ?_)
 refine ⟨.inr rfl, Ent.b ?_⟩
 rw [decide_eq_decide]; omega
theorem pOk_bad {n m : Nat} {a b : Int} {x : Int × Int} {r : PL} (h : x.1 ≤ a ∨ x.2 ≤ b ∨ (n : Int) ≤ x.1 ∨ (m : Int) ≤ x.2) : pOk n m a b (x :: r) = false := by
 cases hp : pOk n m a b (x :: r) with
 | false => rfl
 | true =>
   simp only [pOk, zA0, dEt] at hp
   omega
theorem pOk_good {n m : Nat} {a b : Int} {x : Int × Int} {r : PL} (h : ¬ (x.1 ≤ a ∨ x.2 ≤ b ∨ (n : Int) ≤ x.1 ∨ (m : Int) ≤ x.2)) : pOk n m a b (x :: r) = pOk n m x.1 x.2 r := by
 simp only [pOk]
 rw [decide_eq_true (show a < x.1 by omega), decide_eq_true (show b < x.2 by omega), decide_eq_true (show x.1 < (n : Int) by omega), decide_eq_true (show x.2 < (m : Int) by omega)]
 rfl
theorem drop_at {α : Type} [Inhabited α] {l : List α} {k : Nat} (h : k < l.length) : l.drop k = l.getD k default :: l.drop (k + 1) := by
 rw [zBo h, getD_lt h]
theorem arePairs_spec (a b : Score) (x y : AV) (ha : a.Small) (hb : b.Small) (l : PL) (hl : l.length ≤ 1000000) : PCall Tryz.prog 53 [pcI a b x y, .sl 2 (l.map encPr) .no] (.b (pOk a.bars.length b.bars.length (-1) (-1) l)) := by
 have h1 := ha.1
 have h2 := hb.1
 refine PCall.body Tryz.func53 rfl rfl Tryz.ntmps53 rfl rfl ?_
 repeat' (first | refine aoQ rfl rfl rfl (fun hg => by first | exact std0 | exact pbD tabOk rfl rfl nds | exact std1) (by exact rfl) ?_ | refine sqW ?_ | refine rgK (fun K' hK => ?_) | (refine aoN (hK _ _ ?_); clear hK K') | refine aoE (stW tabOk rfl rfl rfl tI rfl rfl tI rfl rfl rfl rfl rfl rfl rfl ?_) | refine aoE (alW tabOk rfl rfl rfl rfl rfl rfl ?_) | refine blK ?_)
 refine lpD (ι := Nat × Int × Int) (fun q => [(0, pcI a b x y), (5, .ptr 0 0), (9, .sl 2 (l.map encPr) .no), (10, .int l.length), (11, .int q.1)]) (fun q => [.var (encPr q.2)])
  (fun q => q.1 ≤ l.length ∧ pOk a.bars.length b.bars.length (-1) (-1) l = pOk a.bars.length b.bars.length q.2.1 q.2.2 (l.drop q.1)) (fun q => l.length - q.1) 1 (fun _ => rfl) (0, -1, -1) ⟨nZl _, rfl⟩ ⟨rfl, rfl, rfl, rfl, rfl, tI⟩ rfl (fun _ _ => rfl) (fun _ _ => rfl) ?_
 rintro ⟨k, la, lb⟩ ⟨hk, hp⟩
 dsimp only at hk hp
 by_cases hlt : k < l.length
 · obtain ⟨z, hz⟩ : ∃ z, l.getD k default = z := ⟨_, rfl⟩
   rw [drop_at hlt, hz] at hp
   repeat' (first | refine aoQ rfl rfl rfl (fun hg => by first | exact iX encPr l ((k : Nat) : Int) hz (hb := by omega) | exact std0) (by exact rfl) ?_ | refine sqW ?_ | refine rgK (fun K' hK => ?_) | (refine aoN (hK _ _ ?_); clear hK K') | refine aoE (stW tabOk rfl rfl rfl tI rfl rfl tI rfl rfl rfl rfl rfl rfl rfl ?_) | refine aoE (alW tabOk rfl rfl rfl rfl rfl rfl ?_) | refine cdN rfl tI (fun hc => ?_) (fun hc => ?_) | refine blK ?_ | refine exW ?_ | refine skW ?_ | refine rtW ?_ | refine dK2 (by decide +kernel) (by kernel_rfl) (by decide +kernel) rfl (fun K' hK => ?_) | (refine aqN (hK _ ?_); clear hK K') | refine aqQ rfl rfl (fun hg => by first | exact std0 | exact PRun.nilCheckI rfl rfl nd | exact std1) (by exact rfl) ?_)
   all_goals (first | (exfalso; omega) | (exfalso; simp at hc; omega) | skip)
   · refine ⟨.inr rfl, Ent.b (Eq.symm ?_)⟩
     rw [hp]
     refine pOk_bad ?_
     simp only [zA2, zAi, zA0, zA5, zAf, dEt, dEf, zAh, zAe, beq_iff_eq, beq_eq_false_iff_ne, bne_iff_ne, bne_eq_false_iff_eq, gt_iff_lt, ge_iff_le, ne_eq] at hc
     omega
   · have hn : ¬ (z.1 ≤ la ∨ z.2 ≤ lb ∨ (a.bars.length : Int) ≤ z.1 ∨ (b.bars.length : Int) ≤ z.2) := by
      simp only [zA2, zAi, zA0, zA5, zAf, dEt, dEf, zAh, zAe, beq_iff_eq, beq_eq_false_iff_ne, bne_iff_ne, bne_eq_false_iff_eq, gt_iff_lt, ge_iff_le, ne_eq] at hc
      omega
     rw [pOk_good hn] at hp
     exact ⟨(k + 1, z.1, z.2), ⟨hlt, hp⟩, by show l.length - (k + 1) < l.length - k; omega, ⟨rfl, rfl, rfl, rfl, rfl, tI⟩, rfl⟩
 · repeat' (first | refine aoQ rfl rfl rfl (fun hg => by first | exact std0 | exact std1) (by exact rfl) ?_ | refine sqW ?_ | refine rgK (fun K' hK => ?_) | (refine aoN (hK _ _ ?_); clear hK K') | refine aoE (stW tabOk rfl rfl rfl tI rfl rfl tI rfl rfl rfl rfl rfl rfl rfl ?_) | refine aoE (alW tabOk rfl rfl rfl rfl rfl rfl ?_) | refine cdN rfl tI (fun hc => ?_) (fun hc => ?_) | refine blK ?_ | refine exW ?_ | refine skW ?_ | refine rtW ?_ | refine dK2 (by decide +kernel) (by kernel_rfl) (by decide +kernel) rfl (fun K' hK => ?_) | refine aqQ rfl rfl (fun hg => by exact std0) (by exact rfl) ?_)
   all_goals (first | (exfalso; omega) | skip)
   refine ⟨.inr rfl, Ent.b (Eq.symm ?_)⟩
   rw [hp, List.drop_eq_nil_of_le (by omega)]; rfl
def KnOk (a b : Score) (kn : List (KeyP × Int)) : Prop := ∀ (i k : Nat) (v : Int), lk kn ((i : Int), (k : Int)) = some v → v = costR a b i k
theorem KnOk.nil (a b : Score) : KnOk a b [] := fun i k v h => by simp [lk] at h
theorem KnOk.ins {a b : Score} {kn : List (KeyP × Int)} (h : KnOk a b kn) (i k : Nat) : KnOk a b (ins kn ((i : Int), (k : Int)) (costR a b i k)) := fun i' k' v hv => by
 rw [lk_ins'] at hv
 split at hv
 · rename_i e
   simp only [Prod.mk.injEq] at e
   have e1 : i = i' := by omega
   have e2 : k = k' := by omega
   subst e1; subst e2
   simpa using hv.symm
 · exact h i' k' v hv
structure Nts (s : Score) : Prop where
 len : s.notes.length ≤ 1000000
 bars : s.bars.length ≤ 1000000
 vals : ∀ n ∈ s.notes, bIn n
theorem Nts.inBar {s : Score} (h : Nts s) (id : Int) : (inBar s id).length ≤ 1000000 ∧ ∀ n ∈ Al.inBar s id, bIn n :=
 ⟨zCs (zBf _ _) h.len, fun n hn => h.vals n (inBar_mem.1 hn).1⟩
def clsT (l : List Nat) (o : Oper) : Nat := match o.op, o.dst with
 | .alloc _, some d => ((l.idxOf? d).map (· + 1)).getD 0
 | .store _ (.tmp t) _, _ => ((l.idxOf? t).map (· + 1)).getD 0
 | _, _ => 0
def cellB (x : Bar) (k : Nat) : AObj := match k with
 | 0 => .arr 4 0 []
 | 1 => .arr 4 1 [encB default]
 | _ => .arr 4 1 [encB x]
abbrev cells2 (s : Store) (x y : Bar) (i j : Nat) : Store := s ++ [cellB x i, cellB y j]
def knI (a b : Score) (kn : List (KeyP × Int)) (i k : Nat) : List (KeyP × Int) := if (lk kn ((i : Int), (k : Int))).isSome then kn else ins kn ((i : Int), (k : Int)) (costR a b i k)
theorem KnOk.knI {a b : Score} {kn : List (KeyP × Int)} (h : KnOk a b kn) (i k : Nat) : KnOk a b (knI a b kn i k) := by
 unfold Al.knI; split
 · exact h
 · exact h.ins i k
def costQ (o0 o1 o2 : AObj) (a b : Score) (al : NL) (kn : List (KeyP × Int)) (i k : Nat) (r : AV) (s : Store) : Prop := r = .int (costR a b i k) ∧ s = PairS o0 o1 o2 a b al (knI a b kn i k)
theorem costP_is (a b : Score) (i k : Nat) : costR a b i k = if (eqBa (barI a i) (barI b k) && (eqRa (barI a i).len (barI b k).len && sameMu (inBar a (barI a i).id) (inBar b (barI b k).id))) = true then 0 else if ((barI a i).id == (barI b k).id || ((eqRa (barI a i).len (barI b k).len && sameMu (inBar a (barI a i).id) (inBar b (barI b k).id)) && decide (((inBar a (barI a i).id).length : Int) > 0))) = true then 1 else 5 := by
 rw [costR_is, Bool.and_comm (sameMu _ _)]
set_option maxHeartbeats 8000000 in
set_option maxRecDepth 20000 in
theorem cost_spec {o0 o1 o2 : AObj} (h3 : Pure3 o0 o1 o2) {a b : Score} (ha : Nts a) (hb : Nts b) {al : NL} (hg0 : Grp a b al) {kn : List (KeyP × Int)} (hkn : KnOk a b kn) {i k : Nat} (hi : i < a.bars.length) (hk : k < b.bars.length) :
 TCall Tryz.prog 44 [.ptr 7 0, .int i, .int k] (PairS o0 o1 o2 a b al kn) (costQ o0 o1 o2 a b al kn i k) := by
 have ha1 := ha.bars
 have hb1 := hb.bars
 refine TCall.body Tryz.func44 rfl rfl Tryz.ntmps44 rfl rfl ?_
 obtain ⟨x, hx⟩ : ∃ x, barI a i = x := ⟨_, rfl⟩
 obtain ⟨y, hy⟩ : ∃ y, barI b k = y := ⟨_, rfl⟩
 have ex : a.bars.getD ((i : Nat) : Int).toNat default = x := hx
 have ey : b.bars.getD ((k : Nat) : Int).toNat default = y := hy
 obtain ⟨lx, vx⟩ := ha.inBar x.id
 obtain ⟨ly, vy⟩ := hb.inBar y.id
 have m1 := music_spec _ lx vx
 have m2 := music_spec _ ly vy
 have m3 := equalN_spec (musL (inBar a x.id)) (musL (inBar b y.id)) (by rw [musL_len]; omega) (by rw [musL_len]; omega)
 rw [musL_eq vx vy] at m3
 have hC := costP_is a b i k
 rw [hx, hy] at hC
 have gx := (hg0 x.id).1
 have gy := (hg0 y.id).2
 repeat' (first | refine aoQ rfl rfl rfl (fun hg => by first | exact std0 | exact PRun.buildAW tabOk rfl rfl nds | exact PRun.lookup (ok := true) (ek := ekP) (ev := AV.int) (zv := 0) (al := kn) (key := ((i : Int), (k : Int))) pairKA (LOk.of (tabOk.get rfl)) (LOk.of (tabOk.get rfl)) rfl rfl (Rd.w rfl nd) (Or.inr ⟨_, rfl, rfl⟩) (Rd.w rfl nd) rfl | exact std1) (by exact rfl) ?_ | refine sqW ?_ | refine rgK (fun K' hK => ?_) | (refine aoN (hK _ _ ?_); clear hK K') | refine cdN rfl tI (fun hc => ?_) (fun hc => ?_) | refine skW ?_ | refine rtW ?_)
 · refine ⟨.inr rfl, _, _, ⟨?_, by unfold knI; rw [if_pos hc]⟩, rfl, nLr _, pairS_ok h3 (nLr _) a b al kn, rfl, rfl⟩
   cases hl : lk kn ((i : Int), (k : Int)) with
   | none => rw [hl] at hc; cases hc
   | some v => rw [zBq, hkn i k v hl]
 have hkI : knI a b kn i k = ins kn ((i : Int), (k : Int)) (costR a b i k) := by unfold knI; rw [if_neg (by rw [hc]; decide)]
 clear hc
 refine AWP.newArr 4 (AWP.newArr 4 ?_)
 refine AWP.drawV 2 (clsT [9, 10]) (fun J => cells2 (PairS o0 o1 o2 a b al kn) x y (J 1) (J 2)) rfl (by kernel_rfl) (by decide +kernel) rfl (by decide +kernel) (fun K' hK => ?_)
 repeat' (first
  | refine VQ.q rfl (by decide +kernel) rfl rfl (fun J' hg => by first | exact iX encB b.bars ((k : Nat) : Int) ey (hb := by omega) | exact iX encB a.bars ((i : Nat) : Int) ex (hb := by omega) | exact std0 | exact std1) (by exact rfl) ?_)
 refine VQ.e 1 0 (v := .eptr 8 4 0 0 1) (d := some 9) rfl (by decide +kernel) rfl ?_ ?_
 · intro env' he J' hJ
   show EStep _ _ _ _ (fun e s => _ ∧ s = cells2 _ x y (J' 1 + 1) (J' 2)) env' (cells2 _ x y (J' 1) (J' 2))
   rw [hJ]
   exact EStep.allocArr (l := 8) (sz := 4) tabOk rfl rfl rfl rfl rfl rfl rfl rfl ⟨rfl, rfl⟩
 refine VQ.e 2 0 (v := .eptr 9 4 0 0 1) (d := some 10) rfl (by decide +kernel) rfl ?_ ?_
 · intro env' he J' hJ
   show EStep _ _ _ _ (fun e s => _ ∧ s = cells2 _ x y (J' 1) (J' 2 + 1)) env' (cells2 _ x y (J' 1) (J' 2))
   rw [hJ]
   exact EStep.allocArr (l := 9) (sz := 4) tabOk rfl rfl rfl rfl rfl rfl rfl rfl ⟨rfl, rfl⟩
 refine VQ.e 1 1 (v := .any) (d := none) rfl (by decide +kernel) rfl ?_ ?_
 · intro env' he J' hJ
   show EStep _ _ _ _ (fun e s => _ ∧ s = cells2 _ x y (J' 1 + 1) (J' 2)) env' (cells2 _ x y (J' 1) (J' 2))
   rw [hJ]
   exact EStep.storeE (l := 8) tabOk rfl rfl ((rdv_congr (he 9 (by decide +kernel))).trans rfl) (by rw [rdn_congr (he 9 (by decide +kernel))]; first | exact tI | exact rfl) rfl (by decide) ((rdv_congr (he 34 (by decide +kernel))).trans rfl) (by rw [rdn_congr (he 34 (by decide +kernel))]; first | exact tI | exact rfl) rfl rfl rfl rfl rfl rfl ⟨rfl, rfl⟩
 refine VQ.e 2 1 (v := .any) (d := none) rfl (by decide +kernel) rfl ?_ ?_
 · intro env' he J' hJ
   show EStep _ _ _ _ (fun e s => _ ∧ s = cells2 _ x y (J' 1) (J' 2 + 1)) env' (cells2 _ x y (J' 1) (J' 2))
   rw [hJ]
   exact EStep.storeE (l := 9) tabOk rfl rfl ((rdv_congr (he 10 (by decide +kernel))).trans rfl) (by rw [rdn_congr (he 10 (by decide +kernel))]; first | exact tI | exact rfl) rfl (by decide) ((rdv_congr (he 42 (by decide +kernel))).trans rfl) (by rw [rdn_congr (he 42 (by decide +kernel))]; first | exact tI | exact rfl) rfl rfl rfl rfl rfl rfl ⟨rfl, rfl⟩
 refine VQ.nil (hK _ _ ?_)
 clear hK K'
 show AWP _ _ _ _ _ (cells2 (PairS o0 o1 o2 a b al kn) x y 2 2)
 refine AWP.keep [(0, .ptr 7 0), (1, .int i), (2, .int k), (9, .eptr 8 4 0 0 1), (10, .eptr 9 4 0 0 1)] ⟨rfl, rfl, rfl, rfl, rfl, tI⟩ ?_
 generalize hCe : costR a b i k = C at *
 repeat' (first | refine aoQ rfl rfl rfl (fun hg => by first | exact std0 | exact PRun.fieldE tabOk rfl rfl nd rfl rfl | exact PRun.loadE tabOk rfl rfl nd rfl (zAd _) rfl rfl rfl | exact PRun.buildAW tabOk rfl rfl nds | exact PRun.eqN flBa rfl rfl nd rfl nd rfl | exact std1) (by exact rfl) ?_ | refine sqW ?_ | refine rgK (fun K' hK => ?_) | (refine aoN (hK _ _ ?_); clear hK K') | refine aoE (EStep.mapUpd (ek := ekP) (ev := AV.int) (al := kn) (key := ((i : Int), (k : Int))) pairKA (LOk.of (tabOk.get rfl)) rfl rfl rfl (Rd.w rfl tI) rfl (Rd.w rfl tI) rfl (Rd.w rfl tI) ?_) | refine cdN rfl tI (fun hc => ?_) (fun hc => ?_) | refine blK ?_ | refine skW ?_ | refine rtW ?_ | refine dK2 (by decide +kernel) (by kernel_rfl) (by decide +kernel) rfl (fun K' hK => ?_) | (refine aqN (hK _ ?_); clear hK K') | refine aqQ rfl rfl (fun hg => by first | exact PRun.eq (PRun.lookupN (ek := ekP) (sz := 12) (f := encN) (al := al) (key := ((1 : Int), y.id)) pairKA (LOk.of (tabOk.get rfl)) (LOk.of (tabOk.get rfl)) rfl rfl (Rd.w rfl nd) (Or.inr ⟨_, rfl, rfl⟩) (Rd.w rfl nd) rfl) (show AV.sl 12 (((lk al ((1 : Int), y.id)).getD []).map encN) .no = AV.sl 12 ((inBar b y.id).map encN) .no by rw [gy]) | exact PRun.eq (PRun.lookupN (ek := ekP) (sz := 12) (f := encN) (al := al) (key := ((0 : Int), x.id)) pairKA (LOk.of (tabOk.get rfl)) (LOk.of (tabOk.get rfl)) rfl rfl (Rd.w rfl nd) (Or.inr ⟨_, rfl, rfl⟩) (Rd.w rfl nd) rfl) (show AV.sl 12 (((lk al ((0 : Int), x.id)).getD []).map encN) .no = AV.sl 12 ((inBar a x.id).map encN) .no by rw [gx]) | exact std0 | exact PRun.fieldE tabOk rfl rfl nd rfl rfl | exact PRun.loadE tabOk rfl rfl nd rfl (zAd _) rfl rfl rfl | exact PRun.buildAW tabOk rfl rfl nds | exact pcW (m1) rfl rfl nd rfl nds | exact pcW (m2) rfl rfl nd rfl nds | exact pcW (m3) rfl rfl nd rfl nds | exact PRun.eqN flRtA rfl rfl nd rfl nd rfl | exact std1) (by exact rfl) ?_)
 · have h2 := hC.trans (if_pos hc)
   rw [h2] at hkI hCe
   exact ⟨.inr rfl, _, PairS o0 o1 o2 a b al (ins kn ((i : Int), (k : Int)) 0), ⟨by rw [hCe], by rw [hkI]⟩, rfl, nLr _, pairS_ok h3 (nLr _) a b al _, rfl, rfl⟩
 · rename_i h1
   have h2 := hC.trans ((if_neg (fun h => Bool.noConfusion (Eq.trans (Eq.symm (show _ = false from h1)) h))).trans (if_pos hc))
   rw [h2] at hkI hCe
   exact ⟨.inr rfl, _, PairS o0 o1 o2 a b al (ins kn ((i : Int), (k : Int)) 1), ⟨by rw [hCe], by rw [hkI]⟩, rfl, nLr _, pairS_ok h3 (nLr _) a b al _, rfl, rfl⟩
 · rename_i h1
   have h2 := hC.trans ((if_neg (fun h => Bool.noConfusion (Eq.trans (Eq.symm (show _ = false from h1)) h))).trans (if_neg (fun h => Bool.noConfusion (Eq.trans (Eq.symm (show _ = false from hc)) h))))
   rw [h2] at hkI hCe
   exact ⟨.inr rfl, _, PairS o0 o1 o2 a b al (ins kn ((i : Int), (k : Int)) 5), ⟨by rw [hCe], by rw [hkI]⟩, rfl, nLr _, pairS_ok h3 (nLr _) a b al _, rfl, rfl⟩
end Go.Proofs.YtekfpcgagoidcaaGreatDoor.Al
