/- Contracts by content: align.newPair makes the map of notes.  Contracts by content: the reference of parts.  Parts in plain words: the program's maps and the reference's searches say the same. No statement is proved here. -/
import Derived.Test.YtekfpcgagoidcaaGreatDoorQ9
import Derived.Test.YtekfpcgagoidcaaGreatDoorQ12
import Derived.Test.YtekfpcgagoidcaaGreatDoorQ16
set_option linter.unusedVariables false
set_option linter.unusedSimpArgs false
namespace Go.Proofs.YtekfpcgagoidcaaGreatDoor.Al
open Go.Ab Go.Sort
attribute [local irreducible] AWP AOps EStep AQ PStep PRun PCall TCall VCall
def alO (a b : Score) : Nat → NL
  | 0 => []
  | 1 => grp0 11 a
  | _ => grp1 11 11 a b
theorem alO_at (a b : Score) (ha : a.Small) (hb : b.Small) {i : Nat} (hi : i < 2) : ∃ s : Score, [a, b].getD i default = s ∧ s.Small ∧ (∀ p ∈ alO a b i, p.1.1 ≠ (i : Int)) ∧ alO a b (i + 1) = toN (foldG 11 i (toG (alO a b i)) s.notes) := by
  have h2 : i = 0 ∨ i = 1 := by omega
  rcases h2 with rfl | rfl
  · exact ⟨a, rfl, ha, (fun p hp => by cases hp), rfl⟩
  · exact ⟨b, rfl, hb, grp0_keys 11 a, rfl⟩
theorem toG_tok {m : Nat} (al : NL) : TokLt m (toG al) := fun p hp => by
  obtain ⟨q, _, rfl⟩ := List.mem_map.1 hp; rfl
theorem lk_none_of {κ α : Type} [DecidableEq κ] (k : κ) : ∀ {al : List (κ × α)}, (∀ p ∈ al, p.1 ≠ k) → lk al k = none
  | [], _ => rfl
  | p :: r, h => by
    simp only [lk]
    rw [if_neg (h p (List.mem_cons_self ..))]
    exact lk_none_of k fun q hq => h q (List.mem_cons_of_mem _ hq)
theorem toG_none {al : NL} {i b : Int} (h : ∀ p ∈ al, p.1.1 ≠ i) : ((lk (toG al) (i, b)).map (·.1)).getD [] = [] := by
  rw [toG_lk, lk_none_of _ fun p hp e => h p hp (by rw [e])]; rfl
theorem valG_fst (al : GL) (k : KeyP) : (valG al k).1 = ((lk al k).map (·.1)).getD [] := by
  unfold valG; cases lk al k <;> rfl
def npR (o0 o1 o2 : AObj) (a b : Score) (r : AV) (s : Store) : Prop :=
  if scoreOk a && scoreOk b then r = .tup [.ptr 7 0, .b true] ∧ ∃ al, Grp a b al ∧ s = PairS o0 o1 o2 a b al [] else r = .tup [.prim (.pointer none), .b false] ∧ s = [o0, o1, o2]
set_option maxHeartbeats 8000000 in
set_option maxRecDepth 20000 in
theorem newPair_spec {o0 o1 o2 : AObj} (h3 : Pure3 o0 o1 o2) (a b : Score) (ha : a.Small) (hb : b.Small) : TCall Tryz.prog 43 [.agg (encS a), .agg (encS b)] [o0, o1, o2] (npR o0 o1 o2 a b) := by
  have va := svalid_spec a ha
  have vb := svalid_spec b hb
  have hn2 := ha.2.2
  have hn3 := hb.2.2
  refine TCall.body Tryz.func43 rfl rfl Tryz.ntmps43 rfl rfl ?_
  repeat' (first | refine AOps.q rfl rfl rfl (fun hg => by first | exact std0 | exact PRun.callW (va) rfl rfl nd rfl nds | exact PRun.callW (vb) rfl rfl nd rfl nds | exact PRun.buildW tabOk rfl rfl nds | exact PRun.buildSlW tabOk rfl rfl nds | exact std1) (by exact rfl) ?_ | refine AWP.seq ?_ | refine AWP.regionK (fun K' hK => ?_) | (refine AOps.nil (hK _ _ ?_); clear hK K') | refine AOps.e (EStep.boxW rfl rfl rfl rfl rfl True.intro rfl rfl ?_) | refine AOps.e (EStep.makeMapW rfl rfl rfl rfl ?_) | (refine AWP.condW rfl True.intro (fun hc => ?_) (fun hc => ?_) <;> (first | (simp only [dEt] at hc) | (simp only [dEf, iNl, iNe] at hc) | skip)) | refine AWP.block ?_ | refine AWP.skip ?_ | refine AWP.ret ?_)
  · have hv : (scoreOk a && scoreOk b) = false := by
      cases h1 : scoreOk a <;> cases h2 : scoreOk b <;> simp_all
    refine ⟨.inr rfl, _, [o0, o1, o2], ?_, rfl, Nat.le_refl _, ?_, rfl, rfl⟩
    · unfold npR; rw [hv]; exact ⟨rfl, rfl⟩
    · obtain ⟨k0, k1, k2⟩ := h3 3
      simp only [List.length_cons, List.length_nil, List.all_cons, List.all_nil, k0, k1, k2]; rfl
  have hv : (scoreOk a && scoreOk b) = true := by
    cases h1 : scoreOk a <;> cases h2 : scoreOk b <;> simp_all
  clear hc va vb
  refine AWP.kill 3 rfl (AWP.kill 4 rfl ?_)
  refine AWP.loopD (ι := Nat) (fun i => [(6, .ptr 7 0), (28, .sl 4 ([a, b].map encS) .fresh), (29, .int 2), (30, .int i)]) (fun i => PairS o0 o1 o2 a b (alO a b i) []) (fun i => i ≤ 2) (fun i => 2 - i) 8 (fun _ => rfl) 0 (Nat.zero_le _) ⟨rfl, rfl, rfl, rfl, True.intro⟩ rfl (fun _ _ => rfl) (fun i _ => pairS_ok h3 (Nat.le_refl _) a b _ _) ?_
  intro i hi
  by_cases hlt : i < 2
  · obtain ⟨s, hs, hsm, hkey, hst⟩ := alO_at a b ha hb hlt
    have hn1 := hsm.2.2
    have hs' : ([a, b].getD ((i : Nat) : Int).toNat default) = s := by rw [Int.toNat_natCast]; exact hs
    repeat' (first | refine AOps.q rfl rfl rfl (fun hg => by first | exact iX encS ([a, b]) ((i : Nat) : Int) hs' (hb := ⟨Int.natCast_nonneg _, Int.ofNat_lt.2 (show _ < 2 by omega)⟩) | exact std0 | exact std1) (by exact rfl) ?_ | refine AWP.seq ?_ | refine AWP.regionK (fun K' hK => ?_) | (refine AOps.nil (hK _ _ ?_); clear hK K') | refine AOps.e (EStep.storeW tabOk rfl rfl rfl True.intro rfl rfl True.intro rfl rfl rfl rfl rfl rfl rfl ?_) | refine AOps.e (EStep.allocW tabOk rfl rfl rfl rfl rfl rfl ?_) | (refine AWP.condW rfl True.intro (fun hc => ?_) (fun hc => ?_) <;> (first | (simp only [dEt] at hc) | (simp only [dEf, iNl, iNe] at hc) | skip)) | refine AWP.block ?_ | refine AWP.exit ?_ | refine AWP.skip ?_ | refine AWP.ret ?_)
    all_goals (first | (exfalso; omega) | skip)
    generalize hal : alO a b i = al0 at *
    refine AWP.mapWeak (ek := ekP) (ev := evN) (ev' := evT) (al := al0) 5 (fun l : List Note => (l, Tok.no)) (by rfl) (fun _ _ _ _ h => h) ?_
    refine AWP.newArr 12 (AWP.newArr 2 (AWP.newOwns 12 (al0.length + s.notes.length + 1) ?_))
    have hown := fun k : Nat => foldG_spec 11 i (s.notes.take k) (toG al0) (toG_own hkey)
    have hlen0 : (toG al0).length = al0.length := by simp [toG]
    have htok : ∀ k, k ≤ s.notes.length → TokLt (11 + (al0.length + s.notes.length + 1)) (foldG 11 i (toG al0) (s.notes.take k)) := fun k hk => foldG_tok i _ (toG_tok al0) (by rw [hlen0, List.length_take]; omega)
    refine AWP.loopD (ι := Nat) (fun k => [(6, .ptr 7 0), (7, .int i), (28, .sl 4 ([a, b].map encS) .fresh), (29, .int 2), (30, .int i), (36, .sl 12 (s.notes.map encN) .no), (37, .int s.notes.length), (38, .int k)])
      (fun k => preS o0 o1 o2 a b s i (foldG 11 i (toG al0) (s.notes.take k)) k (lastO s.notes k) ++ objs (foldG 11 i (toG al0) (s.notes.take k)) (al0.length + s.notes.length + 1))
      (fun k => k ≤ s.notes.length) (fun k => s.notes.length - k) (11 + (al0.length + s.notes.length + 1)) (fun k => by rw [List.length_append, objs_len]; rfl) 0 (Nat.zero_le _) ⟨rfl, rfl, rfl, rfl, rfl, rfl, rfl, rfl, True.intro⟩
      (by rw [List.take_zero]; show _ = preS o0 o1 o2 a b s i (toG al0) 0 none ++ objs (toG al0) _; rw [objs_new]; rfl)
      (fun _ _ => by show (decide (7 < 11 + _) && _) = true; rw [decide_eq_true (by omega)]; rfl) (fun k hk => by rw [List.all_append, objs_ok, preS_ok h3 (by omega) a b s i (htok k hk)]; rfl) ?_
    intro k hk
    by_cases hkl : k < s.notes.length
    · obtain ⟨n, hn⟩ : ∃ n, s.notes.getD k default = n := ⟨_, rfl⟩
      have hstep : foldG 11 i (toG al0) (s.notes.take (k + 1)) = addG 11 (foldG 11 i (toG al0) (s.notes.take k)) ((i : Int), n.bar) n := by rw [takeS hkl, hn, foldG_snoc]
      have hlast : lastO s.notes (k + 1) = some n := by rw [← hn]; rfl
      obtain ⟨g1, g2, g3⟩ := hown k
      rw [hlen0, List.length_take] at g2
      obtain ⟨e1, e2, e3, e4⟩ := entG_at g1 (key := ((i : Int), n.bar)) rfl
      have e5 := objs_at g1 (key := ((i : Int), n.bar)) rfl (N := al0.length + s.notes.length + 1) (by omega)
      have e6 := objs_add g1 (key := ((i : Int), n.bar)) rfl n (N := al0.length + s.notes.length + 1) (by omega)
      have e7 : (valG (foldG 11 i (toG al0) (s.notes.take k)) ((i : Int), n.bar)).1.length ≤ 1000000000 := by
        rw [valG_fst, g3, toG_none hkey, if_pos rfl]
        have := List.length_filter_le (fun m : Note => m.bar == n.bar) (s.notes.take k)
        rw [List.length_take] at this
        simp only [List.nil_append]; omega
      generalize foldG 11 i (toG al0) (s.notes.take k) = G at *
      generalize al0.length + s.notes.length + 1 = N at *
      clear hs' hown htok hst hs
      repeat' (first | refine AOps.e (EStep.allocArrV (l := 9) tabOk rfl rfl rfl rfl rfl rfl rfl rfl ?_) | refine AOps.e (EStep.allocArrV (l := 10) tabOk rfl rfl rfl rfl rfl rfl rfl rfl ?_) | refine AOps.q rfl rfl rfl (fun hg => by first | exact iX encN s.notes ((k : Nat) : Int) hn (hb := by omega) | exact std0 | exact PRun.fieldE tabOk rfl rfl nd rfl rfl | exact PRun.loadE tabOk rfl rfl nd rfl (Nat.succ_pos _) rfl rfl rfl | exact PRun.buildAW tabOk rfl rfl nds) (by exact rfl) ?_ | refine AWP.seq ?_ | refine AWP.regionK (fun K' hK => ?_) | (refine AOps.nil (hK _ _ ?_); clear hK K') | refine AOps.e (EStep.storeE (l := 9) tabOk rfl rfl rfl True.intro rfl (Nat.succ_pos _) rfl True.intro rfl rfl rfl rfl rfl rfl ?_) | refine AOps.e (EStep.storeE (l := 10) tabOk rfl rfl rfl True.intro rfl (Nat.succ_pos _) rfl True.intro rfl rfl rfl rfl rfl rfl ?_) | (refine AWP.condW rfl True.intro (fun hc => ?_) (fun hc => ?_) <;> (first | (simp only [dEt] at hc) | (simp only [dEf, iNl, iNe] at hc) | skip)) | refine AWP.block ?_ | refine AWP.exit ?_ | refine AWP.skip ?_)
      all_goals (first | (exfalso; omega) | skip)
      refine AWP.drawYM effM (fun j => match j with | 0 => preS o0 o1 o2 a b s i G (k + 1) (some n) ++ objs G N | 1 => preS o0 o1 o2 a b s i (entG G ((i : Int), n.bar)) (k + 1) (some n) ++ objs G N | 2 => preS o0 o1 o2 a b s i (entG G ((i : Int), n.bar)) (k + 1) (some n) ++ objs (addG 11 G ((i : Int), n.bar) n) N | _ => preS o0 o1 o2 a b s i (addG 11 G ((i : Int), n.bar) n) (k + 1) (some n) ++ objs (addG 11 G ((i : Int), n.bar) n) N) rfl (by kernel_rfl) (by decide +kernel) rfl (by decide +kernel) (fun K' hK => ?_)
      repeat' (first
        | refine YQ.q (a := 0) (b := 0) rfl (by decide +kernel) (by decide +kernel) rfl rfl rfl (fun k h1 h2 hg => by (have hk : k = 0 := (by omega)); (rcases hk with rfl) <;> (first | exact std0 | exact PRun.fieldE tabOk rfl rfl nd rfl rfl | exact PRun.loadE tabOk rfl rfl nd rfl (Nat.succ_pos _) rfl rfl rfl | exact PRun.buildSlW tabOk rfl rfl nds | exact std1)) (by exact rfl) ?_
        | refine YQ.q (a := 0) (b := 1) rfl (by decide +kernel) (by decide +kernel) rfl rfl rfl (fun k h1 h2 hg => by (have hk : k = 0 ∨ k = 1 := (by omega)); (rcases hk with rfl | rfl) <;> (first | exact std0 | exact PRun.fieldE tabOk rfl rfl nd rfl rfl | exact PRun.loadE tabOk rfl rfl nd rfl (Nat.succ_pos _) rfl rfl rfl | exact PRun.buildSlW tabOk rfl rfl nds | exact std1)) (by exact rfl) ?_
        | refine YQ.q (a := 1) (b := 1) rfl (by decide +kernel) (by decide +kernel) rfl rfl rfl (fun k h1 h2 hg => by (have hk : k = 1 := (by omega)); (rcases hk with rfl) <;> (first | exact std0 | exact PRun.fieldE tabOk rfl rfl nd rfl rfl | exact PRun.loadE tabOk rfl rfl nd rfl (Nat.succ_pos _) rfl rfl rfl | exact PRun.buildSlW tabOk rfl rfl nds | exact std1)) (by exact rfl) ?_
        | refine YQ.q (a := 0) (b := 2) rfl (by decide +kernel) (by decide +kernel) rfl rfl rfl (fun k h1 h2 hg => by (have hk : k = 0 ∨ k = 1 ∨ k = 2 := (by omega)); (rcases hk with rfl | rfl | rfl) <;> (first | exact std0 | exact PRun.fieldE tabOk rfl rfl nd rfl rfl | exact PRun.loadE tabOk rfl rfl nd rfl (Nat.succ_pos _) rfl rfl rfl | exact PRun.buildSlW tabOk rfl rfl nds | exact std1)) (by exact rfl) ?_
        | refine YQ.q (a := 1) (b := 2) rfl (by decide +kernel) (by decide +kernel) rfl rfl rfl (fun k h1 h2 hg => by (have hk : k = 1 ∨ k = 2 := (by omega)); (rcases hk with rfl | rfl) <;> (first | exact std0 | exact PRun.fieldE tabOk rfl rfl nd rfl rfl | exact PRun.loadE tabOk rfl rfl nd rfl (Nat.succ_pos _) rfl rfl rfl | exact PRun.buildSlW tabOk rfl rfl nds | exact std1)) (by exact rfl) ?_
        | refine YQ.q (a := 2) (b := 2) rfl (by decide +kernel) (by decide +kernel) rfl rfl rfl (fun k h1 h2 hg => by (have hk : k = 2 := (by omega)); (rcases hk with rfl) <;> (first | exact std0 | exact PRun.fieldE tabOk rfl rfl nd rfl rfl | exact PRun.loadE tabOk rfl rfl nd rfl (Nat.succ_pos _) rfl rfl rfl | exact PRun.buildSlW tabOk rfl rfl nds | exact std1)) (by exact rfl) ?_)
      refine YQ.e (v := .tup [evT (valG G ((i : Int), n.bar)), .int (posOf G ((i : Int), n.bar))]) (d := some 54) rfl rfl rfl ?_ ?_
      · intro env' he
        exact EStep.mapEnt (l := 5) (ek := ekP) (ev := evT) (al := G) (key := ((i : Int), n.bar)) (v0 := ([], .fresh)) pairKA (LOk.of (tabOk.get rfl)) (LOk.of (tabOk.get rfl)) rfl rfl rfl rfl (Rd.w ((rdv_congr (he 49 (by decide +kernel))).trans rfl) (by rw [rdn_congr (he 49 (by decide +kernel))]; first | exact True.intro | exact rfl)) rfl (Rd.w ((rdv_congr (he 50 (by decide +kernel))).trans rfl) (by rw [rdn_congr (he 50 (by decide +kernel))]; first | exact True.intro | exact rfl)) rfl (fun _ _ _ => .slz 12 .fresh rfl) ⟨rfl, rfl⟩
      repeat' (first
        | refine YQ.q (a := 0) (b := 0) rfl (by decide +kernel) (by decide +kernel) rfl rfl rfl (fun k h1 h2 hg => by (have hk : k = 0 := (by omega)); (rcases hk with rfl) <;> (first | exact std0 | exact std1)) (by exact rfl) ?_
        | refine YQ.q (a := 0) (b := 1) rfl (by decide +kernel) (by decide +kernel) rfl rfl rfl (fun k h1 h2 hg => by (have hk : k = 0 ∨ k = 1 := (by omega)); (rcases hk with rfl | rfl) <;> (first | exact std0 | exact std1)) (by exact rfl) ?_
        | refine YQ.q (a := 1) (b := 1) rfl (by decide +kernel) (by decide +kernel) rfl rfl rfl (fun k h1 h2 hg => by (have hk : k = 1 := (by omega)); (rcases hk with rfl) <;> (first | exact std0 | exact std1)) (by exact rfl) ?_
        | refine YQ.q (a := 0) (b := 2) rfl (by decide +kernel) (by decide +kernel) rfl rfl rfl (fun k h1 h2 hg => by (have hk : k = 0 ∨ k = 1 ∨ k = 2 := (by omega)); (rcases hk with rfl | rfl | rfl) <;> (first | exact std0 | exact std1)) (by exact rfl) ?_
        | refine YQ.q (a := 1) (b := 2) rfl (by decide +kernel) (by decide +kernel) rfl rfl rfl (fun k h1 h2 hg => by (have hk : k = 1 ∨ k = 2 := (by omega)); (rcases hk with rfl | rfl) <;> (first | exact std0 | exact std1)) (by exact rfl) ?_
        | refine YQ.q (a := 2) (b := 2) rfl (by decide +kernel) (by decide +kernel) rfl rfl rfl (fun k h1 h2 hg => by (have hk : k = 2 := (by omega)); (rcases hk with rfl) <;> (first | exact std0 | exact std1)) (by exact rfl) ?_)
      refine YQ.e (v := evT ((valG G ((i : Int), n.bar)).1 ++ [n], .own (11 + posOf G ((i : Int), n.bar)))) (d := some 55) rfl rfl rfl ?_ ?_
      · intro env' he
        refine EStep.appendG (l := 11 + posOf G ((i : Int), n.bar)) (v := valG G ((i : Int), n.bar)) (m := n) tabOk rfl rfl rfl (by decide) e2 (Rd.w ((rdv_congr (he 51 (by decide +kernel))).trans rfl) (by rw [rdn_congr (he 51 (by decide +kernel))]; first | exact True.intro | exact rfl)) ?_ (Rd.w ((rdv_congr (he 53 (by decide +kernel))).trans rfl) (by rw [rdn_congr (he 53 (by decide +kernel))]; first | exact True.intro | exact rfl)) (.sl rfl (by intro x hx; rcases List.mem_singleton.1 hx with rfl; rfl)) (LOk.of (tabOk.get rfl)) (LOk.of (tabOk.get rfl)) rfl rfl (by decide) e7 ⟨rfl, ?_⟩
        · show (preS o0 o1 o2 a b s i (entG G ((i : Int), n.bar)) (k + 1) (some n) ++ objs G N)[11 + posOf G ((i : Int), n.bar)]? = _
          rw [List.getElem?_append_right (by show 11 ≤ _; omega)]
          show (objs G N)[11 + posOf G ((i : Int), n.bar) - 11]? = _
          rw [Nat.add_sub_cancel_left]; exact e5
        · show (preS o0 o1 o2 a b s i (entG G ((i : Int), n.bar)) (k + 1) (some n) ++ objs G N).set (11 + posOf G ((i : Int), n.bar)) _ = preS o0 o1 o2 a b s i (entG G ((i : Int), n.bar)) (k + 1) (some n) ++ objs (addG 11 G ((i : Int), n.bar) n) N
          rw [List.set_append_right _ _ (by show 11 ≤ _; omega)]
          show _ ++ (objs G N).set (11 + posOf G ((i : Int), n.bar) - 11) _ = _
          rw [Nat.add_sub_cancel_left, e6]
      repeat' (first
        | refine YQ.q (a := 0) (b := 0) rfl (by decide +kernel) (by decide +kernel) rfl rfl rfl (fun k h1 h2 hg => by (have hk : k = 0 := (by omega)); (rcases hk with rfl) <;> (first | exact std0 | exact std1)) (by exact rfl) ?_
        | refine YQ.q (a := 0) (b := 1) rfl (by decide +kernel) (by decide +kernel) rfl rfl rfl (fun k h1 h2 hg => by (have hk : k = 0 ∨ k = 1 := (by omega)); (rcases hk with rfl | rfl) <;> (first | exact std0 | exact std1)) (by exact rfl) ?_
        | refine YQ.q (a := 1) (b := 1) rfl (by decide +kernel) (by decide +kernel) rfl rfl rfl (fun k h1 h2 hg => by (have hk : k = 1 := (by omega)); (rcases hk with rfl) <;> (first | exact std0 | exact std1)) (by exact rfl) ?_
        | refine YQ.q (a := 0) (b := 2) rfl (by decide +kernel) (by decide +kernel) rfl rfl rfl (fun k h1 h2 hg => by (have hk : k = 0 ∨ k = 1 ∨ k = 2 := (by omega)); (rcases hk with rfl | rfl | rfl) <;> (first | exact std0 | exact std1)) (by exact rfl) ?_
        | refine YQ.q (a := 1) (b := 2) rfl (by decide +kernel) (by decide +kernel) rfl rfl rfl (fun k h1 h2 hg => by (have hk : k = 1 ∨ k = 2 := (by omega)); (rcases hk with rfl | rfl) <;> (first | exact std0 | exact std1)) (by exact rfl) ?_
        | refine YQ.q (a := 2) (b := 2) rfl (by decide +kernel) (by decide +kernel) rfl rfl rfl (fun k h1 h2 hg => by (have hk : k = 2 := (by omega)); (rcases hk with rfl) <;> (first | exact std0 | exact std1)) (by exact rfl) ?_)
      refine YQ.e (v := .any) (d := none) rfl rfl rfl ?_ ?_
      · intro env' he
        exact EStep.entStore (l := 5) (i := posOf G ((i : Int), n.bar)) (al := entG G ((i : Int), n.bar)) (key := ((i : Int), n.bar)) (v1 := valG G ((i : Int), n.bar)) (v := ((valG G ((i : Int), n.bar)).1 ++ [n], .own (11 + posOf G ((i : Int), n.bar)))) rfl rfl rfl (Rd.w ((rdv_congr (he 49 (by decide +kernel))).trans rfl) (by rw [rdn_congr (he 49 (by decide +kernel))]; first | exact True.intro | exact rfl)) rfl (Rd.w ((rdv_congr (he 56 (by decide +kernel))).trans rfl) (by rw [rdn_congr (he 56 (by decide +kernel))]; first | exact True.intro | exact rfl)) e3 (Rd.w ((rdv_congr (he 55 (by decide +kernel))).trans rfl) (by rw [rdn_congr (he 55 (by decide +kernel))]; first | exact True.intro | exact rfl)) ⟨rfl, rfl⟩
      refine YQ.nil (hK _ _ ?_)
      clear hK K'
      repeat' (first | refine AOps.q rfl rfl rfl (fun hg => by exact std0) (by exact rfl) ?_ | refine AWP.regionK (fun K' hK => ?_) | (refine AOps.nil (hK _ _ ?_); clear hK K'))
      refine ⟨k + 1, by omega, by omega, ⟨rfl, rfl, rfl, rfl, rfl, rfl, rfl, rfl, True.intro⟩, ?_⟩
      show _ = preS o0 o1 o2 a b s i (foldG 11 i (toG al0) (s.notes.take (k + 1))) (k + 1) (lastO s.notes (k + 1)) ++ objs (foldG 11 i (toG al0) (s.notes.take (k + 1))) N
      rw [hstep, hlast]
      exact List.take_of_length_le (by show (preS o0 o1 o2 a b s i (addG 11 G ((i : Int), n.bar) n) (k + 1) (some n) ++ objs (addG 11 G ((i : Int), n.bar) n) N).length ≤ _; rw [List.length_append, objs_len]; exact Nat.le_refl _)
    · obtain rfl : k = s.notes.length := by omega
      refine AWP.mapWeak (ev' := evN) 5 (fun v : List Note × Tok => v.1) (by rfl) (fun v M B x h => EntB.no _ _ _ _ _ _ h) ?_
      repeat' (first | refine AOps.q rfl rfl rfl (fun hg => by first | exact std0 | exact std1) (by exact rfl) ?_ | refine AWP.seq ?_ | refine AWP.regionK (fun K' hK => ?_) | (refine AOps.nil (hK _ _ ?_); clear hK K') | refine AOps.e (EStep.allocW tabOk rfl rfl rfl rfl rfl rfl ?_) | (refine AWP.condW rfl True.intro (fun hc => ?_) (fun hc => ?_) <;> (first | (simp only [dEt] at hc) | (simp only [dEf, iNl, iNe] at hc) | skip)) | refine AWP.block ?_ | refine AWP.exit ?_ | refine AWP.skip ?_)
      all_goals (first | (exfalso; omega) | skip)
      refine ⟨i + 1, by omega, by omega, ⟨rfl, rfl, rfl, rfl, True.intro⟩, ?_⟩
      rw [hst, List.take_length]; rfl
  · obtain rfl : i = 2 := by omega
    repeat' (first | refine AOps.q rfl rfl rfl (fun hg => by first | exact std0 | exact std1) (by exact rfl) ?_ | refine AWP.seq ?_ | refine AWP.regionK (fun K' hK => ?_) | (refine AOps.nil (hK _ _ ?_); clear hK K') | refine AOps.e (EStep.storeW tabOk rfl rfl rfl True.intro rfl rfl True.intro rfl rfl rfl rfl rfl rfl rfl ?_) | refine AOps.e (EStep.allocW tabOk rfl rfl rfl rfl rfl rfl ?_) | (refine AWP.condW rfl True.intro (fun hc => ?_) (fun hc => ?_) <;> (first | (simp only [dEt] at hc) | (simp only [dEf, iNl, iNe] at hc) | skip)) | refine AWP.block ?_ | refine AWP.exit ?_ | refine AWP.skip ?_ | refine AWP.ret ?_)
    all_goals (first | (exfalso; omega) | skip)
    refine ⟨.inr rfl, _, PairS o0 o1 o2 a b (alO a b 2) [], ?_, rfl, (by show 3 ≤ 8; decide), pairS_ok h3 (Nat.le_refl _) a b _ _, rfl, rfl⟩
    unfold npR; rw [hv]
    exact ⟨rfl, _, grp_ok 11 11 a b, rfl⟩
end Go.Proofs.YtekfpcgagoidcaaGreatDoor.Al


namespace Go.Proofs.YtekfpcgagoidcaaGreatDoor
open Go.Ab
attribute [local irreducible] AWP AOps EStep AQ PStep PRun PCall TCall VCall

theorem r8in_spec (a b c : Int) : PCall Tryz.prog 88 [.int a, .int b, .int c] (.b (inB a b c)) := by
  refine PCall.body Tryz.func88 rfl rfl Tryz.ntmps88 rfl rfl ?_
  repeat' (first | refine AOps.q rfl rfl rfl (fun hg => by exact std0) (by exact rfl) ?_ | refine AWP.seq ?_ | refine AWP.regionK (fun K' hK => ?_) | (refine AOps.nil (hK _ _ ?_); clear hK K') | refine AWP.ret ?_)
  exact ⟨.inr rfl, Ent.b rfl⟩
theorem r8shift_spec (i : Interval) : PCall Tryz.prog 153 [.agg (encI i)] (.b (shiftOk i)) := by
  refine PCall.body Tryz.func153 rfl rfl Tryz.ntmps153 rfl rfl ?_
  repeat' (first | refine AOps.q rfl rfl rfl (fun hg => by first | exact std0 | exact PRun.callW (r3fifths_spec i) rfl rfl nd rfl nds | exact PRun.callW (r8in_spec _ _ _) rfl rfl nd rfl nds) (by exact rfl) ?_ | refine AWP.seq ?_ | refine AWP.regionK (fun K' hK => ?_) | (refine AOps.nil (hK _ _ ?_); clear hK K') | refine AOps.e (EStep.boxW rfl rfl rfl rfl rfl True.intro rfl rfl ?_) | refine AWP.ret ?_)
  exact ⟨.inr rfl, Ent.b rfl⟩
set_option maxHeartbeats 1000000 in
theorem part1_spec (p : Part) : PCall Tryz.prog 116 [.agg (encP p)] (.b (partOk p)) := by
  have h1 := r8shift_spec p.shift
  have h2 := r2valid_spec p.low
  have h3 := r2valid_spec p.high
  refine PCall.body Tryz.func116 rfl rfl Tryz.ntmps116 rfl rfl ?_
  repeat' (first | refine AOps.q rfl rfl rfl (fun hg => by first | exact std0 | exact PRun.callW (r8in_spec _ _ _) rfl rfl nd rfl nds | exact PRun.callW (h1) rfl rfl nd rfl nds | exact PRun.callW (h2) rfl rfl nd rfl nds | exact PRun.callW (h3) rfl rfl nd rfl nds) (by exact rfl) ?_ | refine AWP.seq ?_ | refine AWP.regionK (fun K' hK => ?_) | (refine AOps.nil (hK _ _ ?_); clear hK K') | refine AOps.e (EStep.boxW rfl rfl rfl rfl rfl True.intro rfl rfl ?_) | (refine AWP.condW rfl True.intro (fun hc => ?_) (fun hc => ?_) <;> (first | (simp only [dEt] at hc) | (simp only [dEf, iNl, iNe] at hc) | skip)) | refine AWP.skip ?_ | refine AWP.ret ?_ | refine AWP.drawK2 (by decide +kernel) (by kernel_rfl) (by decide +kernel) rfl (fun K' hK => ?_) | refine AQ.q rfl rfl (fun hg => by exact std0) (by exact rfl) ?_)
  · refine ⟨.inr rfl, Ent.b (Eq.symm ?_)⟩
    unfold partOk partBad partNums
    revert hc
    generalize inB p.id 1 1000000 = z1
    generalize inB p.section_ 0 99 = z2
    generalize inB p.of_ 0 1000000 = z3
    generalize inB p.octave (-2) 2 = z4
    generalize inB p.desks 1 40 = z5
    generalize shiftOk p.shift = z6
    generalize pitchOk p.low = z7
    generalize pitchOk p.high = z8
    generalize (p.of_ == p.id) = z9
    generalize (p.of_ == 0 && p.octave != 0) = z10
    generalize decide ((numR2 p.low).1 ≤ (numR2 p.high).1) = z11
    revert z1 z2 z3 z4 z5 z6 z7 z8 z9 z10 z11; decide
  · have hv : pitchOk p.low = true ∧ pitchOk p.high = true := by
      simp only [Bool.or_eq_false_iff, Bool.not_eq_false'] at hc
      exact ⟨hc.1.2, hc.2⟩
    have h4 := sound_spec p.low (pitchIn_ok hv.1)
    have h5 := sound_spec p.high (pitchIn_ok hv.2)
    rw [soundR_num hv.1] at h4
    rw [soundR_num hv.2] at h5
    repeat' (first | refine AWP.ret ?_ | (refine AQ.nil (hK _ ?_); clear hK K') | refine AQ.q rfl rfl (fun hg => by first | exact std0 | exact PRun.callW (h4) rfl rfl nd rfl nds | exact PRun.callW (h5) rfl rfl nd rfl nds) (by exact rfl) ?_)
    refine ⟨.inr rfl, Ent.b (Eq.symm ?_)⟩
    unfold partOk partBad partNums
    show _ = ((p.of_ != p.id && (p.of_ != 0 || p.octave == 0)) && decide ((numR2 p.low).1 ≤ (numR2 p.high).1))
    simp only [bne]
    revert hc
    generalize inB p.id 1 1000000 = z1
    generalize inB p.section_ 0 99 = z2
    generalize inB p.of_ 0 1000000 = z3
    generalize inB p.octave (-2) 2 = z4
    generalize inB p.desks 1 40 = z5
    generalize shiftOk p.shift = z6
    generalize pitchOk p.low = z7
    generalize pitchOk p.high = z8
    generalize (p.of_ == p.id) = z9
    generalize (p.of_ == 0) = z10
    generalize decide ((numR2 p.low).1 ≤ (numR2 p.high).1) = z11
    generalize (p.octave == 0) = z12
    revert z1 z2 z3 z4 z5 z6 z7 z8 z9 z10 z11 z12; decide
def partAt (l : List Part) (id : Int) : Int := findI (fun b : Part => b.id == id) l
def noteAt (l : List Note) (id : Int) : Int := findI (fun b : Note => b.id == id) l
theorem partAt_spec (l : List Part) (id : Int) (hl : l.length ≤ 9223372036854775807) : PCall Tryz.prog 117 [.sl 13 (l.map encP) .no, .int id] (.int (partAt l id)) := by
  refine PCall.body Tryz.func117 rfl rfl Tryz.ntmps117 rfl rfl ?_
  repeat' (first | refine AOps.q rfl rfl rfl (fun hg => by exact std0) (by exact rfl) ?_ | refine AWP.seq ?_ | refine AWP.regionK (fun K' hK => ?_) | (refine AOps.nil (hK _ _ ?_); clear hK K') | refine AWP.block ?_)
  refine AWP.loopW (ι := Nat) (fun k => [(0, .sl 13 (l.map encP) .no), (1, .int id), (5, .int k)]) (fun _ => []) (fun k => k ≤ l.length ∧ ∀ j, j < k → ((l.getD j default).id == id) = false) (fun k => l.length - k) 0 ⟨Nat.zero_le _, fun j h => absurd h (by omega)⟩ ⟨rfl, rfl, rfl, True.intro⟩ rfl ?_
  rintro k ⟨hk, hall⟩
  by_cases hlt : k < l.length
  · repeat' (first | refine AOps.q rfl rfl rfl (fun hg => by first | exact std0 | exact std1) (by exact rfl) ?_ | refine AWP.seq ?_ | refine AWP.regionK (fun K' hK => ?_) | (refine AOps.nil (hK _ _ ?_); clear hK K') | (refine AWP.condW rfl True.intro (fun hc => ?_) (fun hc => ?_) <;> (first | (simp only [dEt] at hc) | (simp only [dEf, iNl, iNe] at hc) | skip)) | refine AWP.block ?_ | refine AWP.exit ?_ | refine AWP.skip ?_ | refine AWP.ret ?_)
    · refine ⟨.inr rfl, Ent.int ?_⟩
      exact (findI_at hlt hc hall).symm
    · exact ⟨k + 1, ⟨by omega, fun j hj => lt_succ_cases hall hc hj⟩, by omega, ⟨rfl, rfl, rfl, True.intro⟩, rfl⟩
    · exfalso; omega
  · repeat' (first | refine AOps.q rfl rfl rfl (fun hg => by first | exact std0 | exact std1) (by exact rfl) ?_ | refine AWP.seq ?_ | refine AWP.regionK (fun K' hK => ?_) | (refine AOps.nil (hK _ _ ?_); clear hK K') | (refine AWP.condW rfl True.intro (fun hc => ?_) (fun hc => ?_) <;> (first | (simp only [dEt] at hc) | (simp only [dEf, iNl, iNe] at hc) | skip)) | refine AWP.block ?_ | refine AWP.exit ?_ | refine AWP.skip ?_ | refine AWP.ret ?_)
    all_goals (first | (exfalso; omega) | skip)
    refine ⟨.inr rfl, Ent.int ?_⟩
    exact (findI_no fun j hj => hall j (by omega)).symm
theorem partAt_in (l : List Part) (id : Int) : (partAt l id = -1 ∧ ∀ q ∈ l, q.id ≠ id) ∨ ∃ j : Nat, partAt l id = j ∧ j < l.length ∧ (l.getD j default).id = id ∧ ∀ i, i < j → (l.getD i default).id ≠ id := by
  rcases (show partAt l id < 0 ∨ 0 ≤ partAt l id by omega) with h | h
  · left
    refine ⟨findI_neg.1 h, fun q hq e => ?_⟩
    have h2 := findI_neg.1 h
    unfold findI at h2
    split at h2
    · omega
    · rename_i h3
      rw [List.findIdx?_eq_none_iff] at h3
      have := h3 q hq
      simp [e] at this
  · right
    obtain ⟨k, h1, h2, h3, h4⟩ := findI_lt h
    exact ⟨k, h1, h2, by simpa using h3, fun i hi => by simpa using h4 i hi⟩
def ownX (l : List Part) (n : Note) : Int := if partAt l n.part < 0 then -1 else if (l.getD (partAt l n.part).toNat default).of_ != 0 then -1 else partAt l n.part
theorem own_spec (l : List Part) (n : Note) (hl : l.length ≤ 9223372036854775807) : PCall Tryz.prog 119 [.sl 13 (l.map encP) .no, .agg (encN n)] (.int (ownX l n)) := by
  have h1 := partAt_spec l n.part hl
  have hx : -1 ≤ partAt l n.part ∧ partAt l n.part < l.length := by
    rcases partAt_in l n.part with ⟨h, _⟩ | ⟨j, h, h2, _⟩ <;> omega
  refine PCall.body Tryz.func119 rfl rfl Tryz.ntmps119 rfl rfl ?_
  repeat' (first | refine AOps.q rfl rfl rfl (fun hg => by first | exact std0 | exact PRun.callW (h1) rfl rfl nd rfl nds | exact std1) (by exact rfl) ?_ | refine AWP.seq ?_ | refine AWP.regionK (fun K' hK => ?_) | (refine AOps.nil (hK _ _ ?_); clear hK K') | refine AOps.e (EStep.boxW rfl rfl rfl rfl rfl True.intro rfl rfl ?_) | (refine AWP.condW rfl True.intro (fun hc => ?_) (fun hc => ?_) <;> (first | (simp only [dEt] at hc) | (simp only [dEf, iNl, iNe] at hc) | skip)) | refine AWP.skip ?_ | refine AWP.ret ?_)
  · exact ⟨.inr rfl, Ent.int (by unfold ownX; rw [if_pos hc])⟩
  · exact ⟨.inr rfl, Ent.int (by unfold ownX; rw [if_neg (by omega), if_pos hc])⟩
  · exact ⟨.inr rfl, Ent.int (by unfold ownX; rw [if_neg (by omega), if_neg (by rw [hc]; decide)])⟩
def partX (l : List Part) (i : Nat) : Bool := partOk (l.getD i default) && (partAt l (l.getD i default).id == i) && ((l.getD i default).of_ == 0 || (decide (0 ≤ partAt l (l.getD i default).of_) && (l.getD (partAt l (l.getD i default).of_).toNat default).of_ == 0))
def partsX (l : List Part) : Bool := inB l.length 1 60 && (List.range l.length).all (partX l)
theorem partsX_spec (l : List Part) (hl : l.length ≤ 9223372036854775807) : PCall Tryz.prog 87 [.sl 13 (l.map encP) .no] (.b (partsX l)) := by
  refine PCall.body Tryz.func87 rfl rfl Tryz.ntmps87 rfl rfl ?_
  repeat' (first | refine AOps.q rfl rfl rfl (fun hg => by first | exact std0 | exact std1) (by exact rfl) ?_ | refine AWP.seq ?_ | refine AWP.regionK (fun K' hK => ?_) | (refine AOps.nil (hK _ _ ?_); clear hK K') | (refine AWP.condW rfl True.intro (fun hc => ?_) (fun hc => ?_) <;> (first | (simp only [dEt] at hc) | (simp only [dEf, iNl, iNe] at hc) | skip)) | refine AWP.block ?_ | refine AWP.skip ?_ | refine AWP.ret ?_)
  · refine ⟨.inr rfl, Ent.b (Eq.symm ?_)⟩
    unfold partsX inB
    simp at hc
    by_cases h : (1 : Int) ≤ l.length
    · rw [decide_eq_false (show ¬ (l.length : Int) ≤ 60 by omega)]; simp
    · rw [decide_eq_false h]; rfl
  have hn : inB (l.length : Int) 1 60 = true := by simp [inB]; simp at hc; omega
  clear hc
  refine AWP.loopW (ι := Nat) (fun k => [(0, .sl 13 (l.map encP) .no), (3, .int k)]) (fun _ => []) (fun k => k ≤ l.length ∧ (∀ j, j < k → partX l j = true)) (fun k => l.length - k) 0 ⟨Nat.zero_le _, fun j h => absurd h (by omega)⟩ ⟨rfl, rfl, True.intro⟩ rfl ?_
  rintro k ⟨hk, hall⟩
  by_cases hlt : k < l.length
  · have h1 := part1_spec (l.getD k default)
    have h2 := partAt_spec l (l.getD k default).id hl
    have h3 := partAt_spec l (l.getD k default).of_ hl
    have hx : partAt l (l.getD k default).of_ < l.length := by
      rcases partAt_in l (l.getD k default).of_ with ⟨h, _⟩ | ⟨j, h, h2, _⟩ <;> omega
    have bad : ∀ b, partX l k = false → partsX l = b → b = false := fun b h e => by
      rw [← e]; unfold partsX; rw [allR_no hlt h]; simp
    repeat' (first | refine AOps.q rfl rfl rfl (fun hg => by first | exact std0 | exact PRun.callW (h1) rfl rfl nd rfl nds | exact PRun.callW (h2) rfl rfl nd rfl nds | exact PRun.callW (h3) rfl rfl nd rfl nds | exact std1) (by exact rfl) ?_ | refine AWP.seq ?_ | refine AWP.regionK (fun K' hK => ?_) | (refine AOps.nil (hK _ _ ?_); clear hK K') | (refine AWP.condW rfl True.intro (fun hc => ?_) (fun hc => ?_) <;> (first | (simp only [dEt] at hc) | (simp only [dEf, iNl, iNe] at hc) | skip)) | refine AWP.block ?_ | refine AWP.exit ?_ | refine AWP.skip ?_ | refine AWP.ret ?_)
    all_goals (first | (exfalso; omega) | skip)
    · refine ⟨.inr rfl, Ent.b (Eq.symm (bad _ ?_ rfl))⟩
      unfold partX
      have h4 : (partOk (l.getD k default) && (partAt l (l.getD k default).id == (k : Int))) = false := by
        revert hc
        show ((!partOk (l.getD k default)) || (partAt l (l.getD k default).id != (k : Int))) = true → _
        unfold bne
        generalize partOk (l.getD k default) = z1
        generalize (partAt l (l.getD k default).id == (k : Int)) = z2
        revert z1 z2; decide
      rw [h4]; rfl
    · rename_i hc1
      have h4 : (partOk (l.getD k default) && (partAt l (l.getD k default).id == (k : Int))) = true := by
        revert hc1
        show ((!partOk (l.getD k default)) || (partAt l (l.getD k default).id != (k : Int))) = false → _
        unfold bne
        generalize partOk (l.getD k default) = z1
        generalize (partAt l (l.getD k default).id == (k : Int)) = z2
        revert z1 z2; decide
      have h5 : ((l.getD k default).of_ == 0) = true := hc
      refine ⟨k + 1, ⟨by omega, fun i hi => lt_succ_cases hall (by unfold partX; rw [h4, h5]; rfl) hi⟩, by omega, ⟨rfl, rfl, True.intro⟩, rfl⟩
    · refine ⟨.inr rfl, Ent.b (Eq.symm (bad _ ?_ rfl))⟩
      rename_i hc1
      have h5 : ((l.getD k default).of_ == 0) = false := hc1
      have h6 : decide (0 ≤ partAt l (l.getD k default).of_) = false := decide_eq_false (by omega)
      unfold partX
      rw [h5, h6]; simp
    · refine ⟨.inr rfl, Ent.b (Eq.symm (bad _ ?_ rfl))⟩
      rename_i hc2 hc3
      have h5 : ((l.getD k default).of_ == 0) = false := hc2
      have h7 : ((l.getD (partAt l (l.getD k default).of_).toNat default).of_ == 0) = false := by
        revert hc; show ((l.getD (partAt l (l.getD k default).of_).toNat default).of_ != 0) = true → _; unfold bne; simp
      unfold partX
      rw [h5, h7]; simp
    · rename_i hc1 hc2 hc3
      have h4 : (partOk (l.getD k default) && (partAt l (l.getD k default).id == (k : Int))) = true := by
        revert hc1
        show ((!partOk (l.getD k default)) || (partAt l (l.getD k default).id != (k : Int))) = false → _
        unfold bne
        generalize partOk (l.getD k default) = z1
        generalize (partAt l (l.getD k default).id == (k : Int)) = z2
        revert z1 z2; decide
      have h6 : decide (0 ≤ partAt l (l.getD k default).of_) = true := decide_eq_true (by omega)
      have h7 : ((l.getD (partAt l (l.getD k default).of_).toNat default).of_ == 0) = true := by
        revert hc; show ((l.getD (partAt l (l.getD k default).of_).toNat default).of_ != 0) = false → _; unfold bne; simp
      refine ⟨k + 1, ⟨by omega, fun i hi => lt_succ_cases hall (by unfold partX; rw [h4, h6, h7]; simp) hi⟩, by omega, ⟨rfl, rfl, True.intro⟩, rfl⟩
  · repeat' (first | refine AOps.q rfl rfl rfl (fun hg => by first | exact std0 | exact std1) (by exact rfl) ?_ | refine AWP.seq ?_ | refine AWP.regionK (fun K' hK => ?_) | (refine AOps.nil (hK _ _ ?_); clear hK K') | (refine AWP.condW rfl True.intro (fun hc => ?_) (fun hc => ?_) <;> (first | (simp only [dEt] at hc) | (simp only [dEf, iNl, iNe] at hc) | skip)) | refine AWP.block ?_ | refine AWP.exit ?_ | refine AWP.skip ?_ | refine AWP.ret ?_)
    all_goals (first | (exfalso; omega) | skip)
    refine ⟨.inr rfl, Ent.b ?_⟩
    unfold partsX
    rw [hn, allR_yes fun j hj => hall j (by omega)]; rfl
end Go.Proofs.YtekfpcgagoidcaaGreatDoor


namespace Go.Proofs.YtekfpcgagoidcaaGreatDoor
open Go.Ab

theorem ins_len {α : Type} (al : List (Int × α)) (k : Int) (v : α) : (ins al k v).length = if (lk al k).isSome then al.length else al.length + 1 := by
  induction al with
  | nil => simp [ins, lk]
  | cons p r ih =>
    obtain ⟨k', v'⟩ := p
    simp only [ins, lk]
    by_cases h : k' = k
    · simp [h]
    · simp only [if_neg h, List.length_cons, ih]
      split <;> rfl
theorem partsAL_facts (l : List Part) : ∀ k, k ≤ l.length →
    ((partsAL (l.take k)).length ≤ k ∧ ((partsAL (l.take k)).length = k ↔ ((l.take k).map (·.id)).Nodup)) ∧
    (∀ id, (lk (partsAL (l.take k)) id).isSome = true ↔ ∃ j, j < k ∧ (l.getD j default).id = id) ∧
    (∀ id q, lk (partsAL (l.take k)) id = some q → ∃ j, j < k ∧ l.getD j default = q ∧ q.id = id)
  | 0, _ => by
    refine ⟨⟨by simp [partsAL], by simp [partsAL]⟩, fun id => ?_, fun id q h => ?_⟩
    · simp [partsAL, lk]
    · simp [partsAL, lk] at h
  | k + 1, hk => by
    obtain ⟨⟨a1, a2⟩, b, c⟩ := partsAL_facts l k (by omega)
    rw [partsAL_succ l k (by omega)]
    have hmem : (l.getD k default).id ∈ (l.take k).map (·.id) ↔ (lk (partsAL (l.take k)) (l.getD k default).id).isSome = true := by
      rw [b, mem_take (fun p : Part => p.id) (by omega)]
    refine ⟨⟨?_, ?_⟩, fun id => ?_, fun id q h => ?_⟩
    · rw [ins_len]; split <;> omega
    · rw [ins_len, nodup_succ (fun p : Part => p.id) l k (by omega)]
      split
      · rename_i h
        constructor
        · intro e; omega
        · rintro ⟨_, h2⟩; exact absurd (hmem.2 h) h2
      · rename_i h
        rw [← a2]
        constructor
        · intro e; exact ⟨by omega, fun h2 => h (hmem.1 h2)⟩
        · rintro ⟨e, _⟩; omega
    · rw [lk_ins']
      by_cases e : (l.getD k default).id = id
      · rw [if_pos e]
        exact ⟨fun _ => ⟨k, by omega, e⟩, fun _ => rfl⟩
      · rw [if_neg e, b]
        constructor
        · rintro ⟨j, h1, h2⟩; exact ⟨j, by omega, h2⟩
        · rintro ⟨j, h1, h2⟩
          rcases Nat.lt_or_ge j k with h3 | h3
          · exact ⟨j, h3, h2⟩
          · have : j = k := by omega
            subst this; exact absurd h2 e
    · rw [lk_ins'] at h
      split at h
      · rename_i e
        simp only [Option.some.injEq] at h; subst h
        exact ⟨k, by omega, rfl, e⟩
      · obtain ⟨j, h1, h2⟩ := c id q h
        exact ⟨j, by omega, h2⟩
theorem take_all {α : Type} (l : List α) : l.take l.length = l := List.take_length
theorem partsAL_nodup (l : List Part) : (partsAL l).length = l.length ↔ (l.map (·.id)).Nodup := by
  have := (partsAL_facts l l.length (Nat.le_refl _)).1.2
  rwa [take_all] at this
theorem lk_parts {l : List Part} (hn : (l.map (·.id)).Nodup) (id : Int) (q : Part) : lk (partsAL l) id = some q ↔ q ∈ l ∧ q.id = id := by
  obtain ⟨_, b, c⟩ := partsAL_facts l l.length (Nat.le_refl _)
  rw [take_all] at b c
  constructor
  · intro h
    obtain ⟨j, h1, h2, h3⟩ := c id q h
    exact ⟨by rw [← h2, getD_lt h1]; exact List.getElem_mem h1, h3⟩
  · rintro ⟨h1, h2⟩
    obtain ⟨i, hi, rfl⟩ := List.mem_iff_getElem.1 h1
    have h3 := (b id).2 ⟨i, hi, by rw [getD_lt hi]; exact h2⟩
    cases h4 : lk (partsAL l) id with
    | none => rw [h4] at h3; cases h3
    | some q =>
      obtain ⟨j, h5, h6, h7⟩ := c id q h4
      have : j = i := nodup_at (fun p : Part => p.id) hn h5 hi (by rw [h6, h7, getD_lt hi, h2])
      subst this
      rw [← h6, getD_lt hi]
theorem partAt_lk {l : List Part} (hn : (l.map (·.id)).Nodup) (id : Int) : (lk (partsAL l) id = none ∧ partAt l id = -1) ∨ ∃ j : Nat, lk (partsAL l) id = some (l.getD j default) ∧ partAt l id = j ∧ j < l.length ∧ (l.getD j default).id = id := by
  rcases partAt_in l id with ⟨h1, h2⟩ | ⟨j, h1, h2, h3, h4⟩
  · left
    refine ⟨?_, h1⟩
    cases h : lk (partsAL l) id with
    | none => rfl
    | some q =>
      obtain ⟨h5, h6⟩ := (lk_parts hn id q).1 h
      exact absurd h6 (h2 q h5)
  · right
    refine ⟨j, (lk_parts hn id _).2 ⟨by rw [getD_lt h2]; exact List.getElem_mem h2, h3⟩, h1, h2, h3⟩
theorem partAt_self {l : List Part} (hn : (l.map (·.id)).Nodup) {i : Nat} (hi : i < l.length) : partAt l (l.getD i default).id = i := by
  rcases partAt_in l (l.getD i default).id with ⟨h1, h2⟩ | ⟨j, h1, h2, h3, h4⟩
  · exact absurd rfl (h2 _ (by rw [getD_lt hi]; exact List.getElem_mem hi))
  · have := nodup_at (fun p : Part => p.id) hn h2 hi h3
    rw [h1, this]
theorem nodup_partAt {l : List Part} (h : ∀ i, i < l.length → partAt l (l.getD i default).id = i) : (l.map (·.id)).Nodup := by
  rw [List.Nodup, List.pairwise_map, List.pairwise_iff_getElem]
  intro i j hi hj hij e
  have h1 := h j hj
  rcases partAt_in l (l.getD j default).id with ⟨h2, _⟩ | ⟨k, h2, h3, h4, h5⟩
  · omega
  · have : k = j := by omega
    subst this
    exact h5 i hij (by rw [getD_lt hi, getD_lt hj, e])
theorem findI_none {α : Type} [Inhabited α] {p : α → Bool} {l : List α} : (!decide (findI p l ≥ 0)) = (List.range l.length).all fun i => !p (l.getD i default) := by
  by_cases h : findI p l ≥ 0
  · obtain ⟨k, _, h2, h3, _⟩ := findI_lt h
    rw [decide_eq_true h, allR_no h2 (by rw [h3]; rfl)]; rfl
  · rw [decide_eq_false h]
    symm
    refine allR_yes fun j hj => ?_
    have h2 := findI_neg.1 (show findI p l < 0 by omega)
    unfold findI at h2
    split at h2
    · omega
    · rename_i h3
      rw [List.findIdx?_eq_none_iff] at h3
      have := h3 (l.getD j default) (by rw [getD_lt hj]; exact List.getElem_mem hj)
      rw [this]; rfl
theorem all_range {α : Type} [Inhabited α] (p : α → Bool) (l : List α) : l.all p = (List.range l.length).all fun i => p (l.getD i default) := by
  rw [Bool.eq_iff_iff, List.all_eq_true, List.all_eq_true]
  constructor
  · intro h i hi
    have := List.mem_range.1 hi
    exact h _ (by rw [getD_lt this]; exact List.getElem_mem this)
  · intro h x hx
    obtain ⟨i, hi, rfl⟩ := List.mem_iff_getElem.1 hx
    have := h i (List.mem_range.2 hi)
    rwa [getD_lt hi] at this
theorem partsX_ok (l : List Part) : partsX l = partsOk l := by
  unfold partsX partsOk
  rw [findI_none, all_range partOk l]
  cases inB (l.length : Int) 1 60 with
  | false => rfl
  | true =>
    simp only [Bool.true_and]
    by_cases hn : (l.map (·.id)).Nodup
    · have e : (((partsAL l).length : Int) == (l.length : Int)) = true := by rw [(partsAL_nodup l).2 hn]; simp
      rw [e, Bool.true_and, Bool.eq_iff_iff, Bool.and_eq_true, List.all_eq_true, List.all_eq_true, List.all_eq_true, ← forall_and]
      refine forall_congr' fun i => ?_
      rw [← forall_and]
      refine forall_congr' fun hi => ?_
      have hi := List.mem_range.1 hi
      unfold partX lost
      rw [partAt_self hn hi]
      have e2 : ((l.getD i default).of_ == 0 || (decide (0 ≤ partAt l (l.getD i default).of_) && (l.getD (partAt l (l.getD i default).of_).toNat default).of_ == 0)) =
          !((l.getD i default).of_ != 0 && (!(lk (partsAL l) (l.getD i default).of_).isSome || ((lk (partsAL l) (l.getD i default).of_).getD default).of_ != 0)) := by
        rcases partAt_lk hn (l.getD i default).of_ with ⟨h1, h2⟩ | ⟨j, h1, h2, h3, h4⟩
        · rw [h1, h2]; unfold bne; cases ((l.getD i default).of_ == 0) <;> rfl
        · rw [h1, h2]
          have e3 : decide ((0 : Int) ≤ (j : Int)) = true := decide_eq_true (Int.natCast_nonneg j)
          rw [e3]
          simp only [Int.toNat_natCast, Option.isSome_some, Option.getD_some]
          unfold bne
          cases ((l.getD i default).of_ == 0) <;> cases ((l.getD j default).of_ == 0) <;> rfl
      rw [← e2]
      simp
    · have e : (((partsAL l).length : Int) == (l.length : Int)) = false := by
        have := mt (partsAL_nodup l).1 hn
        simp; omega
      rw [e, Bool.false_and, Bool.and_false]
      cases hx : (List.range l.length).all (partX l) with
      | false => rfl
      | true =>
        exfalso
        refine hn (nodup_partAt fun i hi => ?_)
        have h1 := List.all_eq_true.1 hx i (List.mem_range.2 hi)
        unfold partX at h1
        simp only [Bool.and_eq_true, beq_iff_eq] at h1
        exact h1.1.2
theorem partsOk_nodup {l : List Part} (h : partsOk l = true) : (l.map (·.id)).Nodup := by
  unfold partsOk at h
  simp only [Bool.and_eq_true, beq_iff_eq] at h
  exact (partsAL_nodup l).1 (by omega)
theorem partsOk_all {l : List Part} (h : partsOk l = true) : ∀ p ∈ l, partOk p = true := by
  unfold partsOk at h
  simp only [Bool.and_eq_true, List.all_eq_true] at h
  exact h.1.2
theorem own_lk {l : List Part} (hn : (l.map (·.id)).Nodup) (n : Note) : (lk (ownAL l) n.part = none ∧ ownX l n = -1) ∨ ∃ j : Nat, lk (ownAL l) n.part = some (l.getD j default) ∧ ownX l n = j ∧ partAt l n.part = j ∧ j < l.length ∧ (l.getD j default).id = n.part ∧ (l.getD j default).of_ = 0 := by
  have hf : (((l.filter fun p => p.of_ == 0)).map (·.id)).Nodup := hn.sublist (List.filter_sublist.map _)
  have key : ∀ q, lk (ownAL l) n.part = some q ↔ (q ∈ l ∧ q.of_ = 0) ∧ q.id = n.part := fun q => by
    unfold ownAL; rw [lk_parts hf]; simp
  have none_of : (∀ q, q ∈ l → q.of_ = 0 → q.id ≠ n.part) → lk (ownAL l) n.part = none := fun h => by
    cases h2 : lk (ownAL l) n.part with
    | none => rfl
    | some q => obtain ⟨⟨h3, h4⟩, h5⟩ := (key q).1 h2; exact absurd h5 (h q h3 h4)
  unfold ownX
  rcases partAt_in l n.part with ⟨h1, h2⟩ | ⟨j, h1, h2, h3, h4⟩
  · left
    rw [h1]
    exact ⟨none_of fun q h3 _ => h2 q h3, rfl⟩
  · rw [h1, if_neg (by omega), Int.toNat_natCast]
    by_cases h5 : (l.getD j default).of_ = 0
    · right
      refine ⟨j, (key _).2 ⟨⟨by rw [getD_lt h2]; exact List.getElem_mem h2, h5⟩, h3⟩, ?_, rfl, h2, h3, h5⟩
      rw [if_neg (by simp only [bne_iff_ne, ne_eq]; exact fun h => h h5)]
    · left
      rw [if_pos (by simpa using h5)]
      refine ⟨none_of fun q h6 h7 h8 => ?_, rfl⟩
      obtain ⟨i, hi, rfl⟩ := List.mem_iff_getElem.1 h6
      have : i = j := nodup_at (fun p : Part => p.id) hn hi h2 (by rw [getD_lt hi, h8, h3])
      subst this
      rw [getD_lt hi] at h5; exact h5 h7
end Go.Proofs.YtekfpcgagoidcaaGreatDoor

