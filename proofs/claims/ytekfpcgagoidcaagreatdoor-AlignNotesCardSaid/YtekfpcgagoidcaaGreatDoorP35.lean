/- The law AlignNotes by content. No statement is proved here. -/
import Derived.Test.YtekfpcgagoidcaaGreatDoorP34
set_option linter.unusedVariables false
set_option linter.unusedSimpArgs false
namespace Go.Proofs.YtekfpcgagoidcaaGreatDoor.Al
open Go.Ab Go.Sort
attribute [local irreducible] AWP AOps EStep AQ PStep PRun PCall TCall VCall
theorem okMapB {κ : Type} (m : Nat) (ek : κ → Value) (al : List (κ × Bool)) : okObj m (.map (Go.Ab.encM ek AV.b al)) = true := by
  show (Go.Ab.encM ek AV.b al).all _ = true
  rw [List.all_eq_true]; intro x hx
  obtain ⟨p, _, rfl⟩ := List.mem_map.1 hx
  rfl
def NS0 (a b : Score) (x : Algn) (pm : List (KeyP × Bool)) : Store := [.var (encS a), .var (encS b), .var (encA x), .map (Go.Ab.encM ekP AV.b pm)]
theorem NS0_ok (a b : Score) (x : Algn) (pm : List (KeyP × Bool)) : (NS0 a b x pm).all (okObj 4) = true := by
  simp only [NS0, List.all_cons, List.all_nil, okMapB]; rfl
def NS1 (a b : Score) (x : Algn) (pm : List (KeyP × Bool)) (L : PL) : Store := [.var (encS a), .var (encS b), .var (encA x), .map (Go.Ab.encM ekP AV.b pm), .map (Go.Ab.encM ekI AV.b (fsM L)), .map (Go.Ab.encM ekI AV.b (snM L)), .map (Go.Ab.encM ekI AV.int (wiM L))]
theorem NS1_ok (a b : Score) (x : Algn) (pm : List (KeyP × Bool)) (L : PL) : (NS1 a b x pm L).all (okObj 7) = true := by
  simp only [NS1, List.all_cons, List.all_nil, okMapB, okMapS]; rfl
theorem lastN_succ (a : Score) (L : PL) (j : Nat) : lastN a L (j + 1) = noteAt a.notes (L.getD j default).1 := by unfold lastN; rw [if_neg (Nat.succ_ne_zero _)]; rfl
set_option maxHeartbeats 16000000 in
set_option maxRecDepth 20000 in
theorem notes_law (a : Score) (ha : a.Sized) (b : Score) (hb : b.Sized) :
    PCall Tryz.prog 7 [.agg (encS a), .agg (encS b)] (.b true) := by
  have hh := head12_spec
  have hu := usable12_spec a b ha hb
  cases hg : usab a b with
  | true =>
    rw [hg] at hu
    obtain ⟨u1, u2, u3, u4⟩ := usab_iff hg
    have sa := few12_small u1
    have sb := few12_small u2
    have na := few12_notes u1
    have nb := few12_notes u2
    have b1 := aBars_spec a b sa sb
    rw [usab_bars hg] at b1
    have lq := alignR_len (costR a b) a.bars.length b.bars.length
    have hpo := (alignR_ok (costR a b) a.bars.length b.bars.length).1
    have n1 := aNotes_spec a b sa sb (bestA a b) (by show (alignR _ _ _).length ≤ _; omega)
    rw [notesR_best u3 u4 rfl] at n1
    have hpp := pairsOk_of hpo
    have hof := out_facts (ok_sc u3) (ok_sc u4) hpp
    have hb0 := ok_sc u4
    rw [alignR_ip, np_ip] at hpp hof n1
    rw [alignR_ip] at lq
    have ln : (notesM a b (back (costR a b) a.bars.length b.bars.length).reverse).length ≤ 60 := Nat.le_trans (outL_len _ _) na.2
    unfold bestA at b1 n1
    rw [alignR_ip] at b1 n1
    generalize (back (costR a b) a.bars.length b.bars.length).reverse = Q at *
    generalize notesM a b Q = L at *
    generalize T (costR a b) a.bars.length b.bars.length = c at *
    generalize tableL (costR a b) (a.bars.length + 1) (b.bars.length + 1) = TT at *
    have lQ : (ip Q).length = Q.length := by unfold ip; rw [List.length_map]
    rw [lQ] at lq
    dsimp only at b1 n1
    clear hpo hg u1 u2
    refine PCall.body Tryz.func7 rfl rfl Tryz.ntmps7 rfl rfl ?_
    repeat' (first | refine AOps.q rfl rfl rfl (fun hg => by first | exact std0 | exact PRun.callW (hh) rfl rfl nd rfl nds | exact PRun.callW (hu) rfl rfl nd rfl nds | exact PRun.callW (b1) rfl rfl nd rfl nds | exact PRun.callW (n1) rfl rfl nd rfl nds | exact std1) (by exact rfl) ?_ | refine AWP.seq ?_ | refine AWP.regionK (fun K' hK => ?_) | (refine AOps.nil (hK _ _ ?_); clear hK K') | refine AOps.e (EStep.boxW rfl rfl rfl rfl rfl True.intro rfl rfl ?_) | refine AOps.e (EStep.storeW tabOk rfl rfl rfl True.intro rfl rfl True.intro rfl rfl rfl rfl rfl rfl rfl ?_) | refine AOps.e (EStep.allocW tabOk rfl rfl rfl rfl rfl rfl ?_) | refine AOps.e (EStep.makeMapW rfl rfl rfl rfl ?_) | (refine AWP.condW rfl True.intro (fun hc => ?_) (fun hc => ?_) <;> (first | (simp only [dEt] at hc) | (simp only [dEf, iNl, iNe] at hc) | skip)) | refine AWP.block ?_ | refine AWP.skip ?_ | refine AWP.ret ?_)
    all_goals (first | (exfalso; omega) | (exfalso; simp at hc; done) | (exfalso; simp at hc; omega) | (exfalso; simp only [dEf, dEt] at hc; omega) | (rename_i h0; exfalso; simp at h0; done) | (rename_i h0; exfalso; simp at h0; omega) | skip)
    clear hh hu b1 n1
    refine AWP.loopD (ι := Nat) (fun k => [(2, .ptr 0 0), (3, .ptr 1 0), (5, .b true), (8, .sl 2 (L.map encPr) .no), (10, .map 3), (51, .sl 2 ((ip Q).map encPr) .no), (52, .int (ip Q).length), (53, .int k)]) (fun k => NS0 a b ⟨ip Q, c, TT⟩ (prM a b (Q.take k)))
      (fun k => k ≤ Q.length) (fun k => Q.length - k) 4 (fun _ => rfl) 0 (Nat.zero_le _) ⟨rfl, rfl, rfl, rfl, rfl, rfl, rfl, rfl, True.intro⟩ rfl (fun _ _ => rfl) (fun _ _ => NS0_ok _ _ _ _) ?_
    intro k hk
    by_cases hlt : k < Q.length
    · obtain ⟨q, hq⟩ : ∃ q, Q.getD k default = q := ⟨_, rfl⟩
      have hz := ip_getD hlt
      have hsu := prM_succ (a := a) (b := b) hlt
      rw [hq] at hz hsu
      obtain ⟨q1, q2⟩ := hpp.2 q (by rw [← hq]; exact getD_mem hlt)
      obtain ⟨u, hu⟩ : ∃ u, barI a q.1 = u := ⟨_, rfl⟩
      obtain ⟨v, hv⟩ : ∃ v, barI b q.2 = v := ⟨_, rfl⟩
      rw [hu, hv] at hsu
      repeat' (first | refine AOps.q rfl rfl rfl (fun hg => by first | exact PRun.eq (v := .iptr (encPr ((ip Q).getD ((k : Nat) : Int).toNat default))) (PRun.indexMW tabOk rfl rfl nd rfl nd rfl rfl (by rw [lQ]; omega)) (congrArg (fun x => AV.iptr (encPr x)) hz) | exact std0 | exact std1) (by exact rfl) ?_ | refine AWP.seq ?_ | refine AWP.regionK (fun K' hK => ?_) | (refine AOps.nil (hK _ _ ?_); clear hK K') | refine AOps.e (EStep.storeW tabOk rfl rfl rfl True.intro rfl rfl True.intro rfl rfl rfl rfl rfl rfl rfl ?_) | refine AOps.e (EStep.allocW tabOk rfl rfl rfl rfl rfl rfl ?_) | refine AOps.e (EStep.mapUpd (ek := ekP) (ev := AV.b) (al := prM a b (Q.take k)) (key := (u.id, v.id)) (v := true) pairKA (LOk.of (tabOk.get rfl)) rfl rfl rfl (Rd.w rfl True.intro) rfl (Rd.w rfl True.intro) rfl (Rd.w rfl True.intro) ?_) | (refine AWP.condW rfl True.intro (fun hc => ?_) (fun hc => ?_) <;> (first | (simp only [dEt] at hc) | (simp only [dEf, iNl, iNe] at hc) | skip)) | refine AWP.block ?_ | refine AWP.exit ?_ | refine AWP.skip ?_ | refine AWP.ret ?_ | refine AWP.drawL2 (by kernel_rfl) (by decide +kernel) rfl (fun K' hK => ?_) | refine AQ.nil ?_ | refine AQ.q rfl rfl (fun hg => by first | exact PRun.eq (v := .iptr (encB (b.bars.getD ((q.2 : Nat) : Int).toNat default))) (PRun.indexMW tabOk rfl rfl nd rfl nd rfl rfl (by omega)) (congrArg (fun x => AV.iptr (encB x)) (show b.bars.getD ((q.2 : Nat) : Int).toNat default = v from hv)) | exact PRun.eq (v := .iptr (encB (a.bars.getD ((q.1 : Nat) : Int).toNat default))) (PRun.indexMW tabOk rfl rfl nd rfl nd rfl rfl (by omega)) (congrArg (fun x => AV.iptr (encB x)) (show a.bars.getD ((q.1 : Nat) : Int).toNat default = u from hu)) | exact std0 | exact PRun.buildAW tabOk rfl rfl nds) (by exact rfl) ?_)
      all_goals (first | (exfalso; omega) | (exfalso; simp at hc; done) | (exfalso; simp at hc; omega) | (exfalso; simp only [dEf, dEt] at hc; omega) | (rename_i h0; exfalso; simp at h0; done) | (rename_i h0; exfalso; simp at h0; omega) | skip)
      exact ⟨k + 1, hlt, by show Q.length - (k + 1) < Q.length - k; omega, ⟨rfl, rfl, rfl, rfl, rfl, rfl, rfl, rfl, True.intro⟩, by show _ = NS0 a b ⟨ip Q, c, TT⟩ (prM a b (Q.take (k + 1))); rw [hsu]; rfl⟩
    · obtain rfl : k = Q.length := by omega
      rw [List.take_length]
      repeat' (first | refine AOps.q rfl rfl rfl (fun hg => by first | exact std0 | exact std1) (by exact rfl) ?_ | refine AWP.seq ?_ | refine AWP.regionK (fun K' hK => ?_) | (refine AOps.nil (hK _ _ ?_); clear hK K') | refine AOps.e (EStep.storeW tabOk rfl rfl rfl True.intro rfl rfl True.intro rfl rfl rfl rfl rfl rfl rfl ?_) | refine AOps.e (EStep.allocW tabOk rfl rfl rfl rfl rfl rfl ?_) | refine AOps.e (EStep.makeMapW rfl rfl rfl rfl ?_) | (refine AWP.condW rfl True.intro (fun hc => ?_) (fun hc => ?_) <;> (first | (simp only [dEt] at hc) | (simp only [dEf, iNl, iNe] at hc) | skip)) | refine AWP.block ?_ | refine AWP.exit ?_ | refine AWP.skip ?_ | refine AWP.ret ?_ | refine AWP.drawL2 (by kernel_rfl) (by decide +kernel) rfl (fun K' hK => ?_) | refine AQ.q rfl rfl (fun hg => by first | exact std0 | exact std1) (by exact rfl) ?_)
      all_goals (first | (exfalso; omega) | (exfalso; simp at hc; done) | (exfalso; simp at hc; omega) | (exfalso; simp only [dEf, dEt] at hc; omega) | (rename_i h0; exfalso; simp at h0; done) | (rename_i h0; exfalso; simp at h0; omega) | skip)
      refine AWP.loopD (ι := Nat) (fun j => [(2, .ptr 0 0), (3, .ptr 1 0), (5, .b true), (8, .sl 2 (L.map encPr) .no), (10, .map 3), (13, .map 4), (14, .map 5), (15, .map 6), (16, .int (lastN a L j)), (101, .sl 2 (L.map encPr) .no), (102, .int L.length), (103, .int j)]) (fun j => NS1 a b ⟨ip Q, c, TT⟩ (prM a b Q) (L.take j))
        (fun j => j ≤ L.length) (fun j => L.length - j) 7 (fun _ => rfl) 0 (Nat.zero_le _) ⟨rfl, rfl, rfl, rfl, rfl, rfl, rfl, rfl, rfl, rfl, rfl, rfl, True.intro⟩ rfl (fun _ _ => rfl) (fun _ _ => NS1_ok _ _ _ _ _) ?_
      intro j hj
      by_cases hlt : j < L.length
      · obtain ⟨z, hz⟩ : ∃ z, L.getD j default = z := ⟨_, rfl⟩
        have hzm : z ∈ L := by rw [← hz]; exact getD_mem hlt
        obtain ⟨i, k, hi, hk, ei, ek, hpt, q, hqm, e1, e2⟩ := hof.of z hzm
        have f1 := fsM_no hof.fst hlt
        have f2 := snM_no hof.snd hlt
        have f3 := prM_true (a := a) (b := b) hqm
        rw [← e1, ← e2] at f3
        have s1 := fsM_succ hlt
        have s2 := snM_succ hlt
        have s3 := wiM_succ hlt
        have s4 := lastN_succ a L j
        have hla : lastN a L j < (i : Int) := by
          unfold lastN
          split
          · omega
          · rename_i h0
            have h1 := List.pairwise_iff_getElem.1 hof.ord (j - 1) j (by omega) hlt (by omega)
            rw [← getD_lt (by omega : j - 1 < L.length), ← getD_lt hlt, hz, ei] at h1
            exact h1
        rw [hz] at f1 f2 s1 s2 s3 s4
        rw [ei] at s4
        have d1 := find12_spec a (by omega) z.1
        have d2 := find12_spec b (by omega) z.2
        rw [ei] at d1
        rw [ek] at d2
        obtain ⟨x, hx⟩ : ∃ x, a.notes.getD i default = x := ⟨_, rfl⟩
        obtain ⟨y, hy⟩ : ∃ y, b.notes.getD k default = y := ⟨_, rfl⟩
        rw [hx] at hpt f3
        rw [hy] at hpt f3
        have hdl : decide ((i : Int) ≤ lastN a L j) = false := decide_eq_false (by omega)
        generalize hla0 : lastN a L j = la at *
        generalize hm1 : fsM (L.take j) = m1 at *
        generalize hm2 : snM (L.take j) = m2 at *
        generalize hm3 : wiM (L.take j) = m3 at *
        show AWP _ _ _ _ _ [.var (encS a), .var (encS b), .var (encA ⟨ip Q, c, TT⟩), .map (Go.Ab.encM ekP AV.b (prM a b Q)), .map (Go.Ab.encM ekI AV.b (fsM (L.take j))), .map (Go.Ab.encM ekI AV.b (snM (L.take j))), .map (Go.Ab.encM ekI AV.int (wiM (L.take j)))]
        rw [hm1, hm2, hm3]
        repeat' (first | refine AOps.q rfl rfl rfl (fun hg => by first | exact PRun.eq (v := .iptr (encPr (L.getD ((j : Nat) : Int).toNat default))) (PRun.indexMW tabOk rfl rfl nd rfl nd rfl rfl (by omega)) (congrArg (fun x => AV.iptr (encPr x)) hz) | exact std0 | exact std1) (by exact rfl) ?_ | refine AWP.seq ?_ | refine AWP.regionK (fun K' hK => ?_) | (refine AOps.nil (hK _ _ ?_); clear hK K') | refine AOps.e (EStep.storeW tabOk rfl rfl rfl True.intro rfl rfl True.intro rfl rfl rfl rfl rfl rfl rfl ?_) | refine AOps.e (EStep.allocW tabOk rfl rfl rfl rfl rfl rfl ?_) | (refine AWP.condW rfl True.intro (fun hc => ?_) (fun hc => ?_) <;> (first | (simp only [dEt] at hc) | (simp only [dEf, iNl, iNe] at hc) | skip)) | refine AWP.block ?_ | refine AWP.exit ?_ | refine AWP.skip ?_)
        all_goals (first | (exfalso; omega) | (exfalso; simp at hc; done) | (exfalso; simp at hc; omega) | (exfalso; simp only [dEf, dEt] at hc; omega) | (rename_i h0; exfalso; simp at h0; done) | (rename_i h0; exfalso; simp at h0; omega) | skip)
        refine AWP.drawK2 (by decide +kernel) (by kernel_rfl) (by decide +kernel) rfl (fun K' hK => ?_)
        repeat' (first | refine AWP.seq ?_ | (refine AQ.nil (hK _ ?_); clear hK K') | refine AQ.q rfl rfl (fun hg => by first | exact std0 | exact PRun.callW (d1) rfl rfl nd rfl nds | exact PRun.callW (d2) rfl rfl nd rfl nds) (by exact rfl) ?_)
        refine AWP.drawK2 (by decide +kernel) (by kernel_rfl) (by decide +kernel) rfl (fun K' hK => ?_)
        repeat' (first | refine AOps.q rfl rfl rfl (fun hg => by exact std0) (by exact rfl) ?_ | refine AWP.seq ?_ | refine AWP.regionK (fun K' hK => ?_) | (refine AOps.nil (hK _ _ ?_); clear hK K') | (refine AWP.condW rfl True.intro (fun hc => ?_) (fun hc => ?_) <;> (first | (simp only [dEt] at hc) | (simp only [dEf, iNl, iNe] at hc) | skip)) | refine AWP.skip ?_ | refine AWP.ret ?_ | (refine AQ.nil (hK _ ?_); clear hK K') | refine AQ.q rfl rfl (fun hg => by first | exact PRun.lookupA (ek := ekP) (ev := AV.b) (zv := false) f3 pairKA (LOk.of (tabOk.get rfl)) (LOk.of (tabOk.get rfl)) rfl rfl (Rd.w rfl nd) (Or.inr ⟨_, rfl, rfl⟩) (Rd.w rfl nd) rfl | exact PRun.lookupA (ek := ekI) (ev := AV.b) (zv := false) f2 (keyLaw_int (LOk.of (tabOk.get rfl))) (LOk.of (tabOk.get rfl)) (LOk.of (tabOk.get rfl)) rfl rfl (Rd.w rfl nd) (Or.inr ⟨_, rfl, rfl⟩) (Rd.w rfl nd) rfl | exact PRun.lookupA (ek := ekI) (ev := AV.b) (zv := false) f1 (keyLaw_int (LOk.of (tabOk.get rfl))) (LOk.of (tabOk.get rfl)) (LOk.of (tabOk.get rfl)) rfl rfl (Rd.w rfl nd) (Or.inr ⟨_, rfl, rfl⟩) (Rd.w rfl nd) rfl | exact PRun.eq (v := .int x.part) (PRun.step tabOk rfl sd) (congrArg AV.int hpt) | exact PRun.eq (v := .iptr (encN (b.notes.getD ((k : Nat) : Int).toNat default))) (PRun.indexMW tabOk rfl rfl nd rfl nd rfl rfl (by omega)) (congrArg (fun x => AV.iptr (encN x)) (show b.notes.getD ((k : Nat) : Int).toNat default = y from hy)) | exact PRun.eq (v := .iptr (encN (a.notes.getD ((i : Nat) : Int).toNat default))) (PRun.indexMW tabOk rfl rfl nd rfl nd rfl rfl (by omega)) (congrArg (fun x => AV.iptr (encN x)) (show a.notes.getD ((i : Nat) : Int).toNat default = x from hx)) | exact PRun.eq (PRun.binW rfl rfl nd rfl nd rfl) (show AV.b (decide ((i : Int) ≤ la)) = AV.b false from congrArg AV.b hdl) | exact std0 | exact PRun.buildAW tabOk rfl rfl nds) (by exact rfl) ?_)
        all_goals (first | (exfalso; omega) | (exfalso; simp at hc; done) | (exfalso; simp at hc; omega) | (exfalso; simp only [dEf, dEt] at hc; omega) | (rename_i h0; exfalso; simp at h0; done) | (rename_i h0; exfalso; simp at h0; omega) | skip)
        refine AWP.drawYM effOp (fun q => match q with | 0 => [.var (encS a), .var (encS b), .var (encA ⟨ip Q, c, TT⟩), .map (Go.Ab.encM ekP AV.b (prM a b Q)), .map (Go.Ab.encM ekI AV.b (m1)), .map (Go.Ab.encM ekI AV.b (m2)), .map (Go.Ab.encM ekI AV.int (m3)), .var (encPr z)] | 1 => [.var (encS a), .var (encS b), .var (encA ⟨ip Q, c, TT⟩), .map (Go.Ab.encM ekP AV.b (prM a b Q)), .map (Go.Ab.encM ekI AV.b (ins m1 z.1 true)), .map (Go.Ab.encM ekI AV.b (m2)), .map (Go.Ab.encM ekI AV.int (m3)), .var (encPr z)] | 2 => [.var (encS a), .var (encS b), .var (encA ⟨ip Q, c, TT⟩), .map (Go.Ab.encM ekP AV.b (prM a b Q)), .map (Go.Ab.encM ekI AV.b (ins m1 z.1 true)), .map (Go.Ab.encM ekI AV.b (ins m2 z.2 true)), .map (Go.Ab.encM ekI AV.int (m3)), .var (encPr z)] | _ => [.var (encS a), .var (encS b), .var (encA ⟨ip Q, c, TT⟩), .map (Go.Ab.encM ekP AV.b (prM a b Q)), .map (Go.Ab.encM ekI AV.b (ins m1 z.1 true)), .map (Go.Ab.encM ekI AV.b (ins m2 z.2 true)), .map (Go.Ab.encM ekI AV.int (ins m3 z.1 z.2)), .var (encPr z)]) rfl (by kernel_rfl) (by decide +kernel) rfl (by decide +kernel) (fun K' hK => ?_)
        repeat' (first
          | refine YQ.q (a := 0) (b := 0) rfl (by decide +kernel) (by decide +kernel) rfl rfl rfl (fun k h1 h2 hg => by (have hk : k = 0 := (by omega)); (rcases hk with rfl) <;> (first | exact std0 | exact std1)) (by exact rfl) ?_
          | refine YQ.q (a := 0) (b := 1) rfl (by decide +kernel) (by decide +kernel) rfl rfl rfl (fun k h1 h2 hg => by (have hk : k = 0 ∨ k = 1 := (by omega)); (rcases hk with rfl | rfl) <;> (first | exact std0 | exact std1)) (by exact rfl) ?_
          | refine YQ.q (a := 1) (b := 1) rfl (by decide +kernel) (by decide +kernel) rfl rfl rfl (fun k h1 h2 hg => by (have hk : k = 1 := (by omega)); (rcases hk with rfl) <;> (first | exact std0 | exact std1)) (by exact rfl) ?_
          | refine YQ.q (a := 0) (b := 2) rfl (by decide +kernel) (by decide +kernel) rfl rfl rfl (fun k h1 h2 hg => by (have hk : k = 0 ∨ k = 1 ∨ k = 2 := (by omega)); (rcases hk with rfl | rfl | rfl) <;> (first | exact std0 | exact std1)) (by exact rfl) ?_
          | refine YQ.q (a := 1) (b := 2) rfl (by decide +kernel) (by decide +kernel) rfl rfl rfl (fun k h1 h2 hg => by (have hk : k = 1 ∨ k = 2 := (by omega)); (rcases hk with rfl | rfl) <;> (first | exact std0 | exact std1)) (by exact rfl) ?_
          | refine YQ.q (a := 2) (b := 2) rfl (by decide +kernel) (by decide +kernel) rfl rfl rfl (fun k h1 h2 hg => by (have hk : k = 2 := (by omega)); (rcases hk with rfl) <;> (first | exact std0 | exact std1)) (by exact rfl) ?_
          | refine YQ.q (a := 0) (b := 3) rfl (by decide +kernel) (by decide +kernel) rfl rfl rfl (fun k h1 h2 hg => by (have hk : k = 0 ∨ k = 1 ∨ k = 2 ∨ k = 3 := (by omega)); (rcases hk with rfl | rfl | rfl | rfl) <;> (first | exact std0 | exact std1)) (by exact rfl) ?_
          | refine YQ.q (a := 1) (b := 3) rfl (by decide +kernel) (by decide +kernel) rfl rfl rfl (fun k h1 h2 hg => by (have hk : k = 1 ∨ k = 2 ∨ k = 3 := (by omega)); (rcases hk with rfl | rfl | rfl) <;> (first | exact std0 | exact std1)) (by exact rfl) ?_
          | refine YQ.q (a := 2) (b := 3) rfl (by decide +kernel) (by decide +kernel) rfl rfl rfl (fun k h1 h2 hg => by (have hk : k = 2 ∨ k = 3 := (by omega)); (rcases hk with rfl | rfl) <;> (first | exact std0 | exact std1)) (by exact rfl) ?_
          | refine YQ.q (a := 3) (b := 3) rfl (by decide +kernel) (by decide +kernel) rfl rfl rfl (fun k h1 h2 hg => by (have hk : k = 3 := (by omega)); (rcases hk with rfl) <;> (first | exact std0 | exact std1)) (by exact rfl) ?_)
        refine YQ.e (v := .any) (d := none) rfl rfl rfl ?_ ?_
        · intro env' he
          exact EStep.mapUpd (ek := ekI) (ev := AV.b) (al := m1) (key := z.1) (v := true) (keyLaw_int (LOk.of (tabOk.get rfl))) (LOk.of (tabOk.get rfl)) rfl rfl rfl (Rd.w ((rdv_congr (he 167 (by decide +kernel))).trans rfl) (by rw [rdn_congr (he 167 (by decide +kernel))]; first | exact True.intro | exact rfl)) rfl (Rd.w ((rdv_congr (he 169 (by decide +kernel))).trans rfl) (by rw [rdn_congr (he 169 (by decide +kernel))]; first | exact True.intro | exact rfl)) rfl (Rd.w rfl True.intro) ⟨rfl, rfl⟩
        repeat' (first
          | refine YQ.q (a := 0) (b := 0) rfl (by decide +kernel) (by decide +kernel) rfl rfl rfl (fun k h1 h2 hg => by (have hk : k = 0 := (by omega)); (rcases hk with rfl) <;> (first | exact std0 | exact std1)) (by exact rfl) ?_
          | refine YQ.q (a := 0) (b := 1) rfl (by decide +kernel) (by decide +kernel) rfl rfl rfl (fun k h1 h2 hg => by (have hk : k = 0 ∨ k = 1 := (by omega)); (rcases hk with rfl | rfl) <;> (first | exact std0 | exact std1)) (by exact rfl) ?_
          | refine YQ.q (a := 1) (b := 1) rfl (by decide +kernel) (by decide +kernel) rfl rfl rfl (fun k h1 h2 hg => by (have hk : k = 1 := (by omega)); (rcases hk with rfl) <;> (first | exact std0 | exact std1)) (by exact rfl) ?_
          | refine YQ.q (a := 0) (b := 2) rfl (by decide +kernel) (by decide +kernel) rfl rfl rfl (fun k h1 h2 hg => by (have hk : k = 0 ∨ k = 1 ∨ k = 2 := (by omega)); (rcases hk with rfl | rfl | rfl) <;> (first | exact std0 | exact std1)) (by exact rfl) ?_
          | refine YQ.q (a := 1) (b := 2) rfl (by decide +kernel) (by decide +kernel) rfl rfl rfl (fun k h1 h2 hg => by (have hk : k = 1 ∨ k = 2 := (by omega)); (rcases hk with rfl | rfl) <;> (first | exact std0 | exact std1)) (by exact rfl) ?_
          | refine YQ.q (a := 2) (b := 2) rfl (by decide +kernel) (by decide +kernel) rfl rfl rfl (fun k h1 h2 hg => by (have hk : k = 2 := (by omega)); (rcases hk with rfl) <;> (first | exact std0 | exact std1)) (by exact rfl) ?_
          | refine YQ.q (a := 0) (b := 3) rfl (by decide +kernel) (by decide +kernel) rfl rfl rfl (fun k h1 h2 hg => by (have hk : k = 0 ∨ k = 1 ∨ k = 2 ∨ k = 3 := (by omega)); (rcases hk with rfl | rfl | rfl | rfl) <;> (first | exact std0 | exact std1)) (by exact rfl) ?_
          | refine YQ.q (a := 1) (b := 3) rfl (by decide +kernel) (by decide +kernel) rfl rfl rfl (fun k h1 h2 hg => by (have hk : k = 1 ∨ k = 2 ∨ k = 3 := (by omega)); (rcases hk with rfl | rfl | rfl) <;> (first | exact std0 | exact std1)) (by exact rfl) ?_
          | refine YQ.q (a := 2) (b := 3) rfl (by decide +kernel) (by decide +kernel) rfl rfl rfl (fun k h1 h2 hg => by (have hk : k = 2 ∨ k = 3 := (by omega)); (rcases hk with rfl | rfl) <;> (first | exact std0 | exact std1)) (by exact rfl) ?_
          | refine YQ.q (a := 3) (b := 3) rfl (by decide +kernel) (by decide +kernel) rfl rfl rfl (fun k h1 h2 hg => by (have hk : k = 3 := (by omega)); (rcases hk with rfl) <;> (first | exact std0 | exact std1)) (by exact rfl) ?_)
        refine YQ.e (v := .any) (d := none) rfl rfl rfl ?_ ?_
        · intro env' he
          exact EStep.mapUpd (ek := ekI) (ev := AV.b) (al := m2) (key := z.2) (v := true) (keyLaw_int (LOk.of (tabOk.get rfl))) (LOk.of (tabOk.get rfl)) rfl rfl rfl (Rd.w ((rdv_congr (he 170 (by decide +kernel))).trans rfl) (by rw [rdn_congr (he 170 (by decide +kernel))]; first | exact True.intro | exact rfl)) rfl (Rd.w ((rdv_congr (he 172 (by decide +kernel))).trans rfl) (by rw [rdn_congr (he 172 (by decide +kernel))]; first | exact True.intro | exact rfl)) rfl (Rd.w rfl True.intro) ⟨rfl, rfl⟩
        repeat' (first
          | refine YQ.q (a := 0) (b := 0) rfl (by decide +kernel) (by decide +kernel) rfl rfl rfl (fun k h1 h2 hg => by (have hk : k = 0 := (by omega)); (rcases hk with rfl) <;> (first | exact std0 | exact std1)) (by exact rfl) ?_
          | refine YQ.q (a := 0) (b := 1) rfl (by decide +kernel) (by decide +kernel) rfl rfl rfl (fun k h1 h2 hg => by (have hk : k = 0 ∨ k = 1 := (by omega)); (rcases hk with rfl | rfl) <;> (first | exact std0 | exact std1)) (by exact rfl) ?_
          | refine YQ.q (a := 1) (b := 1) rfl (by decide +kernel) (by decide +kernel) rfl rfl rfl (fun k h1 h2 hg => by (have hk : k = 1 := (by omega)); (rcases hk with rfl) <;> (first | exact std0 | exact std1)) (by exact rfl) ?_
          | refine YQ.q (a := 0) (b := 2) rfl (by decide +kernel) (by decide +kernel) rfl rfl rfl (fun k h1 h2 hg => by (have hk : k = 0 ∨ k = 1 ∨ k = 2 := (by omega)); (rcases hk with rfl | rfl | rfl) <;> (first | exact std0 | exact std1)) (by exact rfl) ?_
          | refine YQ.q (a := 1) (b := 2) rfl (by decide +kernel) (by decide +kernel) rfl rfl rfl (fun k h1 h2 hg => by (have hk : k = 1 ∨ k = 2 := (by omega)); (rcases hk with rfl | rfl) <;> (first | exact std0 | exact std1)) (by exact rfl) ?_
          | refine YQ.q (a := 2) (b := 2) rfl (by decide +kernel) (by decide +kernel) rfl rfl rfl (fun k h1 h2 hg => by (have hk : k = 2 := (by omega)); (rcases hk with rfl) <;> (first | exact std0 | exact std1)) (by exact rfl) ?_
          | refine YQ.q (a := 0) (b := 3) rfl (by decide +kernel) (by decide +kernel) rfl rfl rfl (fun k h1 h2 hg => by (have hk : k = 0 ∨ k = 1 ∨ k = 2 ∨ k = 3 := (by omega)); (rcases hk with rfl | rfl | rfl | rfl) <;> (first | exact std0 | exact std1)) (by exact rfl) ?_
          | refine YQ.q (a := 1) (b := 3) rfl (by decide +kernel) (by decide +kernel) rfl rfl rfl (fun k h1 h2 hg => by (have hk : k = 1 ∨ k = 2 ∨ k = 3 := (by omega)); (rcases hk with rfl | rfl | rfl) <;> (first | exact std0 | exact std1)) (by exact rfl) ?_
          | refine YQ.q (a := 2) (b := 3) rfl (by decide +kernel) (by decide +kernel) rfl rfl rfl (fun k h1 h2 hg => by (have hk : k = 2 ∨ k = 3 := (by omega)); (rcases hk with rfl | rfl) <;> (first | exact std0 | exact std1)) (by exact rfl) ?_
          | refine YQ.q (a := 3) (b := 3) rfl (by decide +kernel) (by decide +kernel) rfl rfl rfl (fun k h1 h2 hg => by (have hk : k = 3 := (by omega)); (rcases hk with rfl) <;> (first | exact std0 | exact std1)) (by exact rfl) ?_)
        refine YQ.e (v := .any) (d := none) rfl rfl rfl ?_ ?_
        · intro env' he
          exact EStep.mapUpd (ek := ekI) (ev := AV.int) (al := m3) (key := z.1) (v := z.2) (keyLaw_int (LOk.of (tabOk.get rfl))) (LOk.of (tabOk.get rfl)) rfl rfl rfl (Rd.w ((rdv_congr (he 173 (by decide +kernel))).trans rfl) (by rw [rdn_congr (he 173 (by decide +kernel))]; first | exact True.intro | exact rfl)) rfl (Rd.w ((rdv_congr (he 175 (by decide +kernel))).trans rfl) (by rw [rdn_congr (he 175 (by decide +kernel))]; first | exact True.intro | exact rfl)) rfl (Rd.w ((rdv_congr (he 177 (by decide +kernel))).trans rfl) (by rw [rdn_congr (he 177 (by decide +kernel))]; first | exact True.intro | exact rfl)) ⟨rfl, rfl⟩
        repeat' (first
          | refine YQ.q (a := 0) (b := 0) rfl (by decide +kernel) (by decide +kernel) rfl rfl rfl (fun k h1 h2 hg => by (have hk : k = 0 := (by omega)); (rcases hk with rfl) <;> (first | exact std0 | exact std1)) (by exact rfl) ?_
          | refine YQ.q (a := 0) (b := 1) rfl (by decide +kernel) (by decide +kernel) rfl rfl rfl (fun k h1 h2 hg => by (have hk : k = 0 ∨ k = 1 := (by omega)); (rcases hk with rfl | rfl) <;> (first | exact std0 | exact std1)) (by exact rfl) ?_
          | refine YQ.q (a := 1) (b := 1) rfl (by decide +kernel) (by decide +kernel) rfl rfl rfl (fun k h1 h2 hg => by (have hk : k = 1 := (by omega)); (rcases hk with rfl) <;> (first | exact std0 | exact std1)) (by exact rfl) ?_
          | refine YQ.q (a := 0) (b := 2) rfl (by decide +kernel) (by decide +kernel) rfl rfl rfl (fun k h1 h2 hg => by (have hk : k = 0 ∨ k = 1 ∨ k = 2 := (by omega)); (rcases hk with rfl | rfl | rfl) <;> (first | exact std0 | exact std1)) (by exact rfl) ?_
          | refine YQ.q (a := 1) (b := 2) rfl (by decide +kernel) (by decide +kernel) rfl rfl rfl (fun k h1 h2 hg => by (have hk : k = 1 ∨ k = 2 := (by omega)); (rcases hk with rfl | rfl) <;> (first | exact std0 | exact std1)) (by exact rfl) ?_
          | refine YQ.q (a := 2) (b := 2) rfl (by decide +kernel) (by decide +kernel) rfl rfl rfl (fun k h1 h2 hg => by (have hk : k = 2 := (by omega)); (rcases hk with rfl) <;> (first | exact std0 | exact std1)) (by exact rfl) ?_
          | refine YQ.q (a := 0) (b := 3) rfl (by decide +kernel) (by decide +kernel) rfl rfl rfl (fun k h1 h2 hg => by (have hk : k = 0 ∨ k = 1 ∨ k = 2 ∨ k = 3 := (by omega)); (rcases hk with rfl | rfl | rfl | rfl) <;> (first | exact std0 | exact std1)) (by exact rfl) ?_
          | refine YQ.q (a := 1) (b := 3) rfl (by decide +kernel) (by decide +kernel) rfl rfl rfl (fun k h1 h2 hg => by (have hk : k = 1 ∨ k = 2 ∨ k = 3 := (by omega)); (rcases hk with rfl | rfl | rfl) <;> (first | exact std0 | exact std1)) (by exact rfl) ?_
          | refine YQ.q (a := 2) (b := 3) rfl (by decide +kernel) (by decide +kernel) rfl rfl rfl (fun k h1 h2 hg => by (have hk : k = 2 ∨ k = 3 := (by omega)); (rcases hk with rfl | rfl) <;> (first | exact std0 | exact std1)) (by exact rfl) ?_
          | refine YQ.q (a := 3) (b := 3) rfl (by decide +kernel) (by decide +kernel) rfl rfl rfl (fun k h1 h2 hg => by (have hk : k = 3 := (by omega)); (rcases hk with rfl) <;> (first | exact std0 | exact std1)) (by exact rfl) ?_)
        refine YQ.nil (hK _ _ ?_)
        clear hK K'
        show AWP _ _ _ _ _ [.var (encS a), .var (encS b), .var (encA ⟨ip Q, c, TT⟩), .map (Go.Ab.encM ekP AV.b (prM a b Q)), .map (Go.Ab.encM ekI AV.b (ins m1 z.1 true)), .map (Go.Ab.encM ekI AV.b (ins m2 z.2 true)), .map (Go.Ab.encM ekI AV.int (ins m3 z.1 z.2)), .var (encPr z)]
        repeat' (first | refine AOps.q rfl rfl rfl (fun hg => by exact std0) (by exact rfl) ?_ | refine AWP.regionK (fun K' hK => ?_) | (refine AOps.nil (hK _ _ ?_); clear hK K'))
        refine ⟨j + 1, hlt, by show L.length - (j + 1) < L.length - j; omega, ⟨rfl, rfl, rfl, rfl, rfl, rfl, rfl, rfl, ?_, rfl, rfl, rfl, True.intro⟩, ?_⟩
        · show AV.int _ = AV.int (lastN a L (j + 1))
          rw [s4]
        · show _ = NS1 a b ⟨ip Q, c, TT⟩ (prM a b Q) (L.take (j + 1))
          unfold NS1
          rw [s1, s2, s3]; rfl
      · obtain rfl : j = L.length := by omega
        rw [List.take_length]
        repeat' (first | refine AOps.q rfl rfl rfl (fun hg => by first | exact std0 | exact std1) (by exact rfl) ?_ | refine AWP.seq ?_ | refine AWP.regionK (fun K' hK => ?_) | (refine AOps.nil (hK _ _ ?_); clear hK K') | refine AOps.e (EStep.storeW tabOk rfl rfl rfl True.intro rfl rfl True.intro rfl rfl rfl rfl rfl rfl rfl ?_) | refine AOps.e (EStep.allocW tabOk rfl rfl rfl rfl rfl rfl ?_) | (refine AWP.condW rfl True.intro (fun hc => ?_) (fun hc => ?_) <;> (first | (simp only [dEt] at hc) | (simp only [dEf, iNl, iNe] at hc) | skip)) | refine AWP.block ?_ | refine AWP.exit ?_ | refine AWP.skip ?_ | refine AWP.drawK2 (by decide +kernel) (by kernel_rfl) (by decide +kernel) rfl (fun K' hK => ?_) | refine AQ.q rfl rfl (fun hg => by exact std0) (by exact rfl) ?_)
        all_goals (first | (exfalso; omega) | (exfalso; simp at hc; done) | (exfalso; simp at hc; omega) | (exfalso; simp only [dEf, dEt] at hc; omega) | (rename_i h0; exfalso; simp at h0; done) | (rename_i h0; exfalso; simp at h0; omega) | skip)
        refine AWP.loopD (ι := Nat) (fun k => [(2, .ptr 0 0), (3, .ptr 1 0), (5, .b true), (10, .map 3), (15, .map 6), (181, .sl 12 (a.notes.map encN) .no), (182, .int a.notes.length), (183, .int k)]) (fun _ => NS1 a b ⟨ip Q, c, TT⟩ (prM a b Q) L)
          (fun k => k ≤ a.notes.length) (fun k => a.notes.length - k) 7 (fun _ => rfl) 0 (Nat.zero_le _) ⟨rfl, rfl, rfl, rfl, rfl, rfl, rfl, rfl, True.intro⟩ rfl (fun _ _ => rfl) (fun _ _ => NS1_ok _ _ _ _ _) ?_
        intro k hk
        by_cases hlt : k < a.notes.length
        · obtain ⟨n, hn⟩ : ∃ n, a.notes.getD k default = n := ⟨_, rfl⟩
          have hnm : n ∈ a.notes := by rw [← hn]; exact getD_mem hlt
          have d2 := find12_spec b (by omega) n.id
          by_cases hf : ∃ y ∈ b.notes, y.id = n.id
          · obtain ⟨y, hym, eid⟩ := hf
            obtain ⟨i, hi, hy, e⟩ := noteAt_of hb0.notes hym
            rw [eid] at e
            rw [e] at d2
            by_cases hpt : y.part = n.part
            · cases hl : lk (prM a b Q) (n.bar, y.bar) with
              | some v =>
                obtain ⟨rfl, q, hq, e1, e2⟩ := prM_some hl
                have h1 := hof.one n hnm y hym eid hpt ⟨q, hq, e1, e2⟩
                have hw : lk (wiM L) n.id = some n.id := lk_insL_mem hof.fst h1
                repeat' (first | refine AOps.q rfl rfl rfl (fun hg => by first | exact PRun.lookupA (ek := ekI) (ev := AV.int) (zv := 0) hw (keyLaw_int (LOk.of (tabOk.get rfl))) (LOk.of (tabOk.get rfl)) (LOk.of (tabOk.get rfl)) rfl rfl (Rd.w rfl nd) (Or.inr ⟨_, rfl, rfl⟩) (Rd.w rfl nd) rfl | exact PRun.eq (v := .iptr (encN (a.notes.getD ((k : Nat) : Int).toNat default))) (PRun.indexMW tabOk rfl rfl nd rfl nd rfl rfl (by omega)) (congrArg (fun x => AV.iptr (encN x)) (show a.notes.getD ((k : Nat) : Int).toNat default = n from hn)) | exact std0 | exact PRun.callW (d2) rfl rfl nd rfl nds) (by exact rfl) ?_ | refine AWP.seq ?_ | refine AWP.regionK (fun K' hK => ?_) | (refine AOps.nil (hK _ _ ?_); clear hK K') | refine AOps.e (EStep.storeW tabOk rfl rfl rfl True.intro rfl rfl True.intro rfl rfl rfl rfl rfl rfl rfl ?_) | refine AOps.e (EStep.allocW tabOk rfl rfl rfl rfl rfl rfl ?_) | (refine AWP.condW rfl True.intro (fun hc => ?_) (fun hc => ?_) <;> (first | (simp only [dEt] at hc) | (simp only [dEf, iNl, iNe] at hc) | skip)) | refine AWP.block ?_ | refine AWP.exit ?_ | refine AWP.skip ?_ | refine AWP.ret ?_ | refine AWP.drawK2 (by decide +kernel) (by kernel_rfl) (by decide +kernel) rfl (fun K' hK => ?_) | (refine AQ.nil (hK _ ?_); clear hK K') | refine AQ.q rfl rfl (fun hg => by first | exact PRun.lookupA (ek := ekP) (ev := AV.b) (zv := false) hl pairKA (LOk.of (tabOk.get rfl)) (LOk.of (tabOk.get rfl)) rfl rfl (Rd.w rfl nd) (Or.inr ⟨_, rfl, rfl⟩) (Rd.w rfl nd) rfl | exact PRun.eq (PRun.binW rfl rfl nd rfl nd rfl) (show AV.b (y.part == n.part) = AV.b true from congrArg AV.b (beq_iff_eq.2 hpt)) | exact PRun.eq (PRun.binW rfl rfl nd rfl nd rfl) (show AV.b (decide (((i : Nat) : Int) ≥ 0)) = AV.b true from congrArg AV.b (decide_eq_true (Int.natCast_nonneg _))) | exact PRun.eq (v := .iptr (encN (b.notes.getD ((i : Nat) : Int).toNat default))) (PRun.indexMW tabOk rfl rfl nd rfl nd rfl rfl (by omega)) (congrArg (fun x => AV.iptr (encN x)) (show b.notes.getD ((i : Nat) : Int).toNat default = y from hy)) | exact std0 | exact PRun.buildAW tabOk rfl rfl nds) (by exact rfl) ?_)
                all_goals (first | (exfalso; omega) | (exfalso; simp at hc; done) | (exfalso; simp at hc; omega) | (exfalso; simp only [dEf, dEt] at hc; omega) | (rename_i h0; exfalso; simp at h0; done) | (rename_i h0; exfalso; simp at h0; omega) | skip)
                refine ⟨k + 1, hlt, by show a.notes.length - (k + 1) < a.notes.length - k; omega, ⟨rfl, rfl, ?_, rfl, rfl, rfl, rfl, rfl, True.intro⟩, rfl⟩
                show AV.b _ = AV.b true
                simp
              | none =>
                repeat' (first | refine AOps.q rfl rfl rfl (fun hg => by first | exact PRun.eq (v := .iptr (encN (a.notes.getD ((k : Nat) : Int).toNat default))) (PRun.indexMW tabOk rfl rfl nd rfl nd rfl rfl (by omega)) (congrArg (fun x => AV.iptr (encN x)) (show a.notes.getD ((k : Nat) : Int).toNat default = n from hn)) | exact std0 | exact PRun.callW (d2) rfl rfl nd rfl nds) (by exact rfl) ?_ | refine AWP.seq ?_ | refine AWP.regionK (fun K' hK => ?_) | (refine AOps.nil (hK _ _ ?_); clear hK K') | refine AOps.e (EStep.storeW tabOk rfl rfl rfl True.intro rfl rfl True.intro rfl rfl rfl rfl rfl rfl rfl ?_) | refine AOps.e (EStep.allocW tabOk rfl rfl rfl rfl rfl rfl ?_) | (refine AWP.condW rfl True.intro (fun hc => ?_) (fun hc => ?_) <;> (first | (simp only [dEt] at hc) | (simp only [dEf, iNl, iNe] at hc) | skip)) | refine AWP.block ?_ | refine AWP.exit ?_ | refine AWP.skip ?_ | refine AWP.ret ?_ | refine AWP.drawK2 (by decide +kernel) (by kernel_rfl) (by decide +kernel) rfl (fun K' hK => ?_) | (refine AQ.nil (hK _ ?_); clear hK K') | refine AQ.q rfl rfl (fun hg => by first | exact PRun.lookupA (ek := ekP) (ev := AV.b) (zv := false) hl pairKA (LOk.of (tabOk.get rfl)) (LOk.of (tabOk.get rfl)) rfl rfl (Rd.w rfl nd) (Or.inr ⟨_, rfl, rfl⟩) (Rd.w rfl nd) rfl | exact PRun.eq (PRun.binW rfl rfl nd rfl nd rfl) (show AV.b (y.part == n.part) = AV.b true from congrArg AV.b (beq_iff_eq.2 hpt)) | exact PRun.eq (PRun.binW rfl rfl nd rfl nd rfl) (show AV.b (decide (((i : Nat) : Int) ≥ 0)) = AV.b true from congrArg AV.b (decide_eq_true (Int.natCast_nonneg _))) | exact PRun.eq (v := .iptr (encN (b.notes.getD ((i : Nat) : Int).toNat default))) (PRun.indexMW tabOk rfl rfl nd rfl nd rfl rfl (by omega)) (congrArg (fun x => AV.iptr (encN x)) (show b.notes.getD ((i : Nat) : Int).toNat default = y from hy)) | exact std0 | exact PRun.buildAW tabOk rfl rfl nds) (by exact rfl) ?_)
                all_goals (first | (exfalso; omega) | (exfalso; simp at hc; done) | (exfalso; simp at hc; omega) | (exfalso; simp only [dEf, dEt] at hc; omega) | (rename_i h0; exfalso; simp at h0; done) | (rename_i h0; exfalso; simp at h0; omega) | skip)
                exact ⟨k + 1, hlt, by show a.notes.length - (k + 1) < a.notes.length - k; omega, ⟨rfl, rfl, rfl, rfl, rfl, rfl, rfl, rfl, True.intro⟩, rfl⟩
            · repeat' (first | refine AOps.q rfl rfl rfl (fun hg => by first | exact PRun.eq (v := .iptr (encN (a.notes.getD ((k : Nat) : Int).toNat default))) (PRun.indexMW tabOk rfl rfl nd rfl nd rfl rfl (by omega)) (congrArg (fun x => AV.iptr (encN x)) (show a.notes.getD ((k : Nat) : Int).toNat default = n from hn)) | exact std0 | exact PRun.callW (d2) rfl rfl nd rfl nds) (by exact rfl) ?_ | refine AWP.seq ?_ | refine AWP.regionK (fun K' hK => ?_) | (refine AOps.nil (hK _ _ ?_); clear hK K') | refine AOps.e (EStep.storeW tabOk rfl rfl rfl True.intro rfl rfl True.intro rfl rfl rfl rfl rfl rfl rfl ?_) | refine AOps.e (EStep.allocW tabOk rfl rfl rfl rfl rfl rfl ?_) | (refine AWP.condW rfl True.intro (fun hc => ?_) (fun hc => ?_) <;> (first | (simp only [dEt] at hc) | (simp only [dEf, iNl, iNe] at hc) | skip)) | refine AWP.block ?_ | refine AWP.exit ?_ | refine AWP.skip ?_ | refine AWP.ret ?_ | refine AWP.drawK2 (by decide +kernel) (by kernel_rfl) (by decide +kernel) rfl (fun K' hK => ?_) | (refine AQ.nil (hK _ ?_); clear hK K') | refine AQ.q rfl rfl (fun hg => by first | exact PRun.eq (PRun.binW rfl rfl nd rfl nd rfl) (show AV.b (y.part == n.part) = AV.b false from congrArg AV.b (beq_eq_false_iff_ne.2 hpt)) | exact PRun.eq (PRun.binW rfl rfl nd rfl nd rfl) (show AV.b (decide (((i : Nat) : Int) ≥ 0)) = AV.b true from congrArg AV.b (decide_eq_true (Int.natCast_nonneg _))) | exact PRun.eq (v := .iptr (encN (b.notes.getD ((i : Nat) : Int).toNat default))) (PRun.indexMW tabOk rfl rfl nd rfl nd rfl rfl (by omega)) (congrArg (fun x => AV.iptr (encN x)) (show b.notes.getD ((i : Nat) : Int).toNat default = y from hy)) | exact std0 | exact (Bool.noConfusion (show false = true from hg) : PRun _ _ _ _ (.b false))) (by exact rfl) ?_)
              all_goals (first | (exfalso; omega) | (exfalso; simp at hc; done) | (exfalso; simp at hc; omega) | (exfalso; simp only [dEf, dEt] at hc; omega) | (rename_i h0; exfalso; simp at h0; done) | (rename_i h0; exfalso; simp at h0; omega) | skip)
              exact ⟨k + 1, hlt, by show a.notes.length - (k + 1) < a.notes.length - k; omega, ⟨rfl, rfl, rfl, rfl, rfl, rfl, rfl, rfl, True.intro⟩, rfl⟩
          · have e : noteAt b.notes n.id = -1 := findI_no fun j hj => by
              refine Bool.eq_false_iff.2 fun g => hf ⟨_, getD_mem hj, ?_⟩
              exact beq_iff_eq.1 g
            rw [e] at d2
            repeat' (first | refine AOps.q rfl rfl rfl (fun hg => by first | exact PRun.eq (v := .iptr (encN (a.notes.getD ((k : Nat) : Int).toNat default))) (PRun.indexMW tabOk rfl rfl nd rfl nd rfl rfl (by omega)) (congrArg (fun x => AV.iptr (encN x)) (show a.notes.getD ((k : Nat) : Int).toNat default = n from hn)) | exact std0 | exact PRun.callW (d2) rfl rfl nd rfl nds) (by exact rfl) ?_ | refine AWP.seq ?_ | refine AWP.regionK (fun K' hK => ?_) | (refine AOps.nil (hK _ _ ?_); clear hK K') | refine AOps.e (EStep.storeW tabOk rfl rfl rfl True.intro rfl rfl True.intro rfl rfl rfl rfl rfl rfl rfl ?_) | refine AOps.e (EStep.allocW tabOk rfl rfl rfl rfl rfl rfl ?_) | (refine AWP.condW rfl True.intro (fun hc => ?_) (fun hc => ?_) <;> (first | (simp only [dEt] at hc) | (simp only [dEf, iNl, iNe] at hc) | skip)) | refine AWP.block ?_ | refine AWP.exit ?_ | refine AWP.skip ?_ | refine AWP.ret ?_ | refine AWP.drawK2 (by decide +kernel) (by kernel_rfl) (by decide +kernel) rfl (fun K' hK => ?_) | (refine AQ.nil (hK _ ?_); clear hK K') | refine AQ.q rfl rfl (fun hg => by first | exact std0 | exact (Bool.noConfusion (show false = true from hg) : PRun _ _ _ _ (.b false))) (by exact rfl) ?_)
            all_goals (first | (exfalso; omega) | (exfalso; simp at hc; done) | (exfalso; simp at hc; omega) | (exfalso; simp only [dEf, dEt] at hc; omega) | (rename_i h0; exfalso; simp at h0; done) | (rename_i h0; exfalso; simp at h0; omega) | skip)
            exact ⟨k + 1, hlt, by show a.notes.length - (k + 1) < a.notes.length - k; omega, ⟨rfl, rfl, rfl, rfl, rfl, rfl, rfl, rfl, True.intro⟩, rfl⟩
        · repeat' (first | refine AOps.q rfl rfl rfl (fun hg => by first | exact std0 | exact std1) (by exact rfl) ?_ | refine AWP.seq ?_ | refine AWP.regionK (fun K' hK => ?_) | (refine AOps.nil (hK _ _ ?_); clear hK K') | refine AOps.e (EStep.storeW tabOk rfl rfl rfl True.intro rfl rfl True.intro rfl rfl rfl rfl rfl rfl rfl ?_) | refine AOps.e (EStep.allocW tabOk rfl rfl rfl rfl rfl rfl ?_) | (refine AWP.condW rfl True.intro (fun hc => ?_) (fun hc => ?_) <;> (first | (simp only [dEt] at hc) | (simp only [dEf, iNl, iNe] at hc) | skip)) | refine AWP.block ?_ | refine AWP.exit ?_ | refine AWP.skip ?_ | refine AWP.ret ?_)
          all_goals (first | (exfalso; omega) | (exfalso; simp at hc; done) | (exfalso; simp at hc; omega) | (exfalso; simp only [dEf, dEt] at hc; omega) | (rename_i h0; exfalso; simp at h0; done) | (rename_i h0; exfalso; simp at h0; omega) | skip)
          exact ⟨.inr rfl, Ent.b rfl⟩
  | false =>
    rw [hg] at hu
    refine PCall.body Tryz.func7 rfl rfl Tryz.ntmps7 rfl rfl ?_
    repeat' (first | refine AOps.q rfl rfl rfl (fun hg => by first | exact std0 | exact PRun.callW (hh) rfl rfl nd rfl nds | exact PRun.callW (hu) rfl rfl nd rfl nds) (by exact rfl) ?_ | refine AWP.seq ?_ | refine AWP.regionK (fun K' hK => ?_) | (refine AOps.nil (hK _ _ ?_); clear hK K') | refine AOps.e (EStep.boxW rfl rfl rfl rfl rfl True.intro rfl rfl ?_) | (refine AWP.condW rfl True.intro (fun hc => ?_) (fun hc => ?_) <;> (first | (simp only [dEt] at hc) | (simp only [dEf, iNl, iNe] at hc) | skip)) | refine AWP.skip ?_ | refine AWP.ret ?_)
    · exact ⟨.inr rfl, Ent.b rfl⟩
    all_goals (exfalso; simp at hc)
end Go.Proofs.YtekfpcgagoidcaaGreatDoor.Al

