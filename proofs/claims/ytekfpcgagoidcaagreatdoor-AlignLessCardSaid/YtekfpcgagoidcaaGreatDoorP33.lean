/- The law AlignLess by content. No statement is proved here. -/
import Derived.Test.YtekfpcgagoidcaaGreatDoorP16
import Derived.Test.YtekfpcgagoidcaaGreatDoorP32
set_option linter.unusedVariables false
set_option linter.unusedSimpArgs false
namespace Go.Proofs.YtekfpcgagoidcaaGreatDoor.Al
open Go.Ab Go.Sort
attribute [local irreducible] AWP AOps EStep AQ PStep PRun PCall TCall VCall
theorem one_encB (l : List Bar) : ∀ x ∈ l.map encB, x.all oneAV = true := fun x hx => by
  obtain ⟨c, _, rfl⟩ := List.mem_map.1 hx; rfl
def LW (a : Score) (bs : AV) (nl : AV) : AObj := .var [.int a.version, bs, .sl 13 (a.parts.map encP) .no, nl]
def tkB (a : Score) (k : Nat) : List (List AV) := (a.bars.take ((k : Nat) : Int).toNat).map encB
def dpB (a : Score) (k : Nat) : List (List AV) := (a.bars.drop (((k : Nat) : Int) + 1).toNat).map encB
def cutN (a : Score) (k j : Nat) : List Note := (a.notes.take j).filter fun n => n.bar != (barI a k).id
theorem cutN_yes {a : Score} {k j : Nat} (h : j < a.notes.length) {n : Note} (hn : a.notes.getD j default = n) (e : n.bar ≠ (barI a k).id) : cutN a k (j + 1) = cutN a k j ++ [n] := by
  unfold cutN; rw [takeS h, hn, List.filter_append, List.filter_cons_of_pos (by simpa using e)]; rfl
theorem cutN_no {a : Score} {k j : Nat} (h : j < a.notes.length) {n : Note} (hn : a.notes.getD j default = n) (e : n.bar = (barI a k).id) : cutN a k (j + 1) = cutN a k j := by
  unfold cutN; rw [takeS h, hn, List.filter_append, List.filter_cons_of_neg (by simpa using e)]; simp
theorem cutN_len (a : Score) (k j : Nat) : (cutN a k j).length ≤ a.notes.length := by
  unfold cutN
  have h1 := List.length_filter_le (fun n : Note => n.bar != (barI a k).id) (a.notes.take j)
  rw [List.length_take] at h1; omega
theorem cutB_eq (a : Score) (k : Nat) : tkB a k ++ dpB a k = (cutB a k).bars.map encB := by
  unfold tkB dpB cutB
  rw [Int.toNat_natCast, show (((k : Nat) : Int) + 1).toNat = k + 1 by omega, List.map_append]
theorem flBa' : flatN Tryz.prog 59 = some [.int .i64, .int .i64, .int .i64, .int .i64] := by kernel_rfl
set_option maxHeartbeats 16000000 in
set_option maxRecDepth 40000 in
theorem less_law (a : Score) (ha : a.Sized) (w : Int) (hw : 0 ≤ w ∧ w ≤ 255) :
    PCall Tryz.prog 8 [.agg (encS a), .prim (.int .u8 w)] (.b true) := by
  have hh := head12_spec
  have hu := usable12_spec a a ha ha
  by_cases hg0 : usab a a = true ∧ 2 ≤ a.bars.length
  · obtain ⟨hg, h2⟩ := hg0
    rw [hg] at hu
    obtain ⟨u1, _, u3, _⟩ := usab_iff hg
    have sa := few12_small u1
    have na := few12_notes u1
    obtain ⟨k, hj⟩ : ∃ j : Nat, w.tmod (a.bars.length : Nat) = (j : Int) := ⟨(w.tmod (a.bars.length : Nat)).toNat, by have := Int.tmod_nonneg (a := w) ((a.bars.length : Nat) : Int) hw.1; omega⟩
    have hkl : k < a.bars.length := by have := Int.tmod_lt_of_pos w (b := ((a.bars.length : Nat) : Int)) (by omega); omega
    have hl0 : ((a.bars.length : Nat) : Int) ≠ 0 := by omega
    have hsc := ok_sc u3
    have hcok := cut_ok u3 hkl h2
    have hlen : (cutB a k).bars.length + 1 = a.bars.length := cut_len (l := a.bars) hkl
    have hnl : (cutB a k).notes.length ≤ a.notes.length := List.length_filter_le _ _
    have sb : (cutB a k).Small := ⟨by have := sa.1; omega, sa.2.1, by have := sa.2.2; omega⟩
    have hshort : ¬ longB a (cutB a k) := by unfold longB; omega
    obtain ⟨t1, t2⟩ := cut_align hsc hkl h2
    have t3 := cut_notes u3 hkl h2
    have b1 := aBars_spec a (cutB a k) sa sb
    have eb : barsR a (cutB a k) = (bestA a (cutB a k), 0) := by unfold barsR; rw [if_pos ⟨u3, hcok⟩, if_neg hshort]
    rw [eb] at b1
    obtain ⟨P, hP⟩ : ∃ P, alignR (costR a (cutB a k)) a.bars.length (cutB a k).bars.length = P := ⟨_, rfl⟩
    have hP1 : P.length = (cutB a k).bars.length := by rw [← hP, t2, List.length_map, List.length_range]
    have hP2 : ∀ j, j < (cutB a k).bars.length → P.getD j default = (((skip k j : Nat) : Int), (j : Int)) := fun j hj => by rw [← hP, t2]; exact range_getD _ hj
    obtain ⟨L, hL⟩ : ∃ L : PL, L = (cutB a k).notes.map (fun n => (n.id, n.id)) := ⟨_, rfl⟩
    have hL1 : L.length = (cutB a k).notes.length := by rw [hL, List.length_map]
    have hL2 : ∀ j, j < (cutB a k).notes.length → L.getD j default = (((cutB a k).notes.getD j default).id, ((cutB a k).notes.getD j default).id) := fun j hj => by rw [hL]; exact map_getD' _ hj
    obtain ⟨T1, hT1⟩ : ∃ t, tableL (costR a (cutB a k)) (a.bars.length + 1) ((cutB a k).bars.length + 1) = t := ⟨_, rfl⟩
    have e1 : bestA a (cutB a k) = ⟨P, 2, T1⟩ := by unfold bestA; rw [t1, hP, hT1]
    have n1 := aNotes_spec a (cutB a k) sa sb ⟨P, 2, T1⟩ (by show P.length ≤ _; omega)
    rw [notesR_best (x := ⟨P, 2, T1⟩) u3 hcok hP.symm, t3, ← hL] at n1
    rw [e1] at b1
    dsimp only at b1 n1
    have hcb := fun j => cut_bar a k j
    clear hP hL hT1 t1 t2 t3 e1 eb hshort
    have ltk : (tkB a k).length = k := by unfold tkB; rw [List.length_map, List.length_take]; omega
    have ldp : (dpB a k).length = a.bars.length - (k + 1) := by unfold dpB; rw [List.length_map, List.length_drop]; omega
    have hX1 : k = 0 → tkB a k = [] := fun h => by rw [h]; rfl
    have hce : (tkB a k ++ dpB a k).length = (cutB a k).bars.length := by rw [List.length_append]; omega
    refine PCall.body Tryz.func8 rfl rfl Tryz.ntmps8 rfl rfl ?_
    repeat' (first | refine AOps.q rfl rfl rfl (fun hg => by first | exact PRun.convV tabOk (wrap64a ⟨by omega, by omega⟩) rfl rfl nd rfl rfl | exact PRun.remV hj hl0 rfl rfl nd rfl nd | exact std0 | exact PRun.callW (hh) rfl rfl nd rfl nds | exact PRun.callW (hu) rfl rfl nd rfl nds | exact std1) (by exact rfl) ?_ | refine AWP.seq ?_ | refine AWP.regionK (fun K' hK => ?_) | (refine AOps.nil (hK _ _ ?_); clear hK K') | refine AOps.e (EStep.boxW rfl rfl rfl rfl rfl True.intro rfl rfl ?_) | refine AOps.e (EStep.storeW tabOk rfl rfl rfl True.intro rfl rfl True.intro rfl rfl rfl rfl rfl rfl rfl ?_) | refine AOps.e (EStep.allocW tabOk rfl rfl rfl rfl rfl rfl ?_) | (refine AWP.condW rfl True.intro (fun hc => ?_) (fun hc => ?_) <;> (first | (simp only [dEt] at hc) | (simp only [dEf, iNl, iNe] at hc) | skip)) | refine AWP.skip ?_ | refine AWP.ret ?_)
    all_goals (first | (exfalso; omega) | (exfalso; simp at hc; done) | (exfalso; simp at hc; omega) | (exfalso; simp only [dEf, dEt] at hc; omega) | (rename_i h0; exfalso; simp at h0; done) | (rename_i h0; exfalso; simp at h0; omega) | skip)
    refine AWP.newOwn 4 ?_
    refine AWP.drawYM effOp (fun j => match j with | 0 => [.var (encS a), .var (encS a), .own 4 0] | 1 => [.var (encS a), .var (encS a), .own 4 (tkB a k).length] | 2 => [.var (encS a), .var (encS a), .own 4 (tkB a k ++ dpB a k).length] | _ => [.var (encS a), LW a (.sl 4 (tkB a k ++ dpB a k) (.own 2)) (.sl 12 (a.notes.map encN) .no), .own 4 (tkB a k ++ dpB a k).length]) rfl (by kernel_rfl) (by decide +kernel) rfl (by decide +kernel) (fun K' hK => ?_)
    repeat' (first
      | refine YQ.q (a := 0) (b := 0) rfl (by decide +kernel) (by decide +kernel) rfl rfl rfl (fun k h1 h2 hg => by (have hk : k = 0 := (by omega)); (rcases hk with rfl) <;> (first | exact std0 | exact PRun.buildSl0 tabOk rfl rfl | exact PRun.sliceLoM tabOk rfl rfl nd rfl nd rfl (by omega) | exact PRun.sliceHiM tabOk rfl rfl nd rfl nd rfl (by omega) | exact PRun.sliceM tabOk rfl rfl nd rfl nd rfl nd rfl (by omega) | exact std1)) (by exact rfl) ?_
      | refine YQ.q (a := 0) (b := 1) rfl (by decide +kernel) (by decide +kernel) rfl rfl rfl (fun k h1 h2 hg => by (have hk : k = 0 ∨ k = 1 := (by omega)); (rcases hk with rfl | rfl) <;> (first | exact std0 | exact PRun.buildSl0 tabOk rfl rfl | exact PRun.sliceLoM tabOk rfl rfl nd rfl nd rfl (by omega) | exact PRun.sliceHiM tabOk rfl rfl nd rfl nd rfl (by omega) | exact PRun.sliceM tabOk rfl rfl nd rfl nd rfl nd rfl (by omega) | exact std1)) (by exact rfl) ?_
      | refine YQ.q (a := 1) (b := 1) rfl (by decide +kernel) (by decide +kernel) rfl rfl rfl (fun k h1 h2 hg => by (have hk : k = 1 := (by omega)); (rcases hk with rfl) <;> (first | exact std0 | exact PRun.buildSl0 tabOk rfl rfl | exact PRun.sliceLoM tabOk rfl rfl nd rfl nd rfl (by omega) | exact PRun.sliceHiM tabOk rfl rfl nd rfl nd rfl (by omega) | exact PRun.sliceM tabOk rfl rfl nd rfl nd rfl nd rfl (by omega) | exact std1)) (by exact rfl) ?_
      | refine YQ.q (a := 0) (b := 2) rfl (by decide +kernel) (by decide +kernel) rfl rfl rfl (fun k h1 h2 hg => by (have hk : k = 0 ∨ k = 1 ∨ k = 2 := (by omega)); (rcases hk with rfl | rfl | rfl) <;> (first | exact std0 | exact PRun.buildSl0 tabOk rfl rfl | exact PRun.sliceLoM tabOk rfl rfl nd rfl nd rfl (by omega) | exact PRun.sliceHiM tabOk rfl rfl nd rfl nd rfl (by omega) | exact PRun.sliceM tabOk rfl rfl nd rfl nd rfl nd rfl (by omega) | exact std1)) (by exact rfl) ?_
      | refine YQ.q (a := 1) (b := 2) rfl (by decide +kernel) (by decide +kernel) rfl rfl rfl (fun k h1 h2 hg => by (have hk : k = 1 ∨ k = 2 := (by omega)); (rcases hk with rfl | rfl) <;> (first | exact std0 | exact PRun.buildSl0 tabOk rfl rfl | exact PRun.sliceLoM tabOk rfl rfl nd rfl nd rfl (by omega) | exact PRun.sliceHiM tabOk rfl rfl nd rfl nd rfl (by omega) | exact PRun.sliceM tabOk rfl rfl nd rfl nd rfl nd rfl (by omega) | exact std1)) (by exact rfl) ?_
      | refine YQ.q (a := 2) (b := 2) rfl (by decide +kernel) (by decide +kernel) rfl rfl rfl (fun k h1 h2 hg => by (have hk : k = 2 := (by omega)); (rcases hk with rfl) <;> (first | exact std0 | exact PRun.buildSl0 tabOk rfl rfl | exact PRun.sliceLoM tabOk rfl rfl nd rfl nd rfl (by omega) | exact PRun.sliceHiM tabOk rfl rfl nd rfl nd rfl (by omega) | exact PRun.sliceM tabOk rfl rfl nd rfl nd rfl nd rfl (by omega) | exact std1)) (by exact rfl) ?_
      | refine YQ.q (a := 0) (b := 3) rfl (by decide +kernel) (by decide +kernel) rfl rfl rfl (fun k h1 h2 hg => by (have hk : k = 0 ∨ k = 1 ∨ k = 2 ∨ k = 3 := (by omega)); (rcases hk with rfl | rfl | rfl | rfl) <;> (first | exact std0 | exact PRun.buildSl0 tabOk rfl rfl | exact PRun.sliceLoM tabOk rfl rfl nd rfl nd rfl (by omega) | exact PRun.sliceHiM tabOk rfl rfl nd rfl nd rfl (by omega) | exact PRun.sliceM tabOk rfl rfl nd rfl nd rfl nd rfl (by omega) | exact std1)) (by exact rfl) ?_
      | refine YQ.q (a := 1) (b := 3) rfl (by decide +kernel) (by decide +kernel) rfl rfl rfl (fun k h1 h2 hg => by (have hk : k = 1 ∨ k = 2 ∨ k = 3 := (by omega)); (rcases hk with rfl | rfl | rfl) <;> (first | exact std0 | exact PRun.buildSl0 tabOk rfl rfl | exact PRun.sliceLoM tabOk rfl rfl nd rfl nd rfl (by omega) | exact PRun.sliceHiM tabOk rfl rfl nd rfl nd rfl (by omega) | exact PRun.sliceM tabOk rfl rfl nd rfl nd rfl nd rfl (by omega) | exact std1)) (by exact rfl) ?_
      | refine YQ.q (a := 2) (b := 3) rfl (by decide +kernel) (by decide +kernel) rfl rfl rfl (fun k h1 h2 hg => by (have hk : k = 2 ∨ k = 3 := (by omega)); (rcases hk with rfl | rfl) <;> (first | exact std0 | exact PRun.buildSl0 tabOk rfl rfl | exact PRun.sliceLoM tabOk rfl rfl nd rfl nd rfl (by omega) | exact PRun.sliceHiM tabOk rfl rfl nd rfl nd rfl (by omega) | exact PRun.sliceM tabOk rfl rfl nd rfl nd rfl nd rfl (by omega) | exact std1)) (by exact rfl) ?_
      | refine YQ.q (a := 3) (b := 3) rfl (by decide +kernel) (by decide +kernel) rfl rfl rfl (fun k h1 h2 hg => by (have hk : k = 3 := (by omega)); (rcases hk with rfl) <;> (first | exact std0 | exact PRun.buildSl0 tabOk rfl rfl | exact PRun.sliceLoM tabOk rfl rfl nd rfl nd rfl (by omega) | exact PRun.sliceHiM tabOk rfl rfl nd rfl nd rfl (by omega) | exact PRun.sliceM tabOk rfl rfl nd rfl nd rfl nd rfl (by omega) | exact std1)) (by exact rfl) ?_)
    refine YQ.e (v := .sl 4 (tkB a k) (if k = 0 then .fresh else .own 2)) (d := some 42) rfl rfl rfl ?_ ?_
    · intro env' he
      by_cases hk0 : k = 0
      · exact EStep.appendE tabOk rfl rfl rfl (by decide) (Rd.w ((rdv_congr (he 37 (by decide +kernel))).trans rfl) (by rw [rdn_congr (he 37 (by decide +kernel))]; first | exact True.intro | exact rfl)) (Rd.w ((rdv_congr (he 41 (by decide +kernel))).trans (congrArg (fun x => some (AV.sl 4 x Tok.no)) (hX1 hk0))) (by rw [rdn_congr (he 41 (by decide +kernel))]; first | exact True.intro | exact rfl)) (.sl (es := []) rfl (one_encB [])) (LOk.of (tabOk.get rfl)) (LOk.of (tabOk.get rfl)) rfl ⟨(by show env'.put 42 (.sl 4 [] .fresh) = env'.put 42 (.sl 4 (tkB a k) (if k = 0 then .fresh else .own 2)); rw [if_pos hk0, hX1 hk0]), (by show [_, _, AObj.own 4 0] = [_, _, AObj.own 4 (tkB a k).length]; rw [hX1 hk0]; rfl)⟩
      · exact EStep.appendAt (l := 2) tabOk rfl rfl rfl (by decide) (Rd.w ((rdv_congr (he 37 (by decide +kernel))).trans rfl) (by rw [rdn_congr (he 37 (by decide +kernel))]; first | exact True.intro | exact rfl)) rfl (Rd.w ((rdv_congr (he 41 (by decide +kernel))).trans rfl) (by rw [rdn_congr (he 41 (by decide +kernel))]; first | exact True.intro | exact rfl)) (.sl rfl (one_encB _)) (by rw [List.length_map, List.length_take]; omega) (LOk.of (tabOk.get rfl)) (LOk.of (tabOk.get rfl)) rfl rfl (by simp only [tkB, dpB, List.length_map, List.length_append, List.length_cons, List.length_nil, List.length_take, List.length_drop]; omega) (by simp only [tkB, dpB, List.length_map, List.length_append, List.length_cons, List.length_nil, List.length_take, List.length_drop]; omega) ⟨(by show env'.put 42 (.sl 4 (tkB a k) (.own 2)) = env'.put 42 (.sl 4 (tkB a k) (if k = 0 then .fresh else .own 2)); rw [if_neg hk0]), rfl⟩
    repeat' (first
      | refine YQ.q (a := 0) (b := 0) rfl (by decide +kernel) (by decide +kernel) rfl rfl rfl (fun k h1 h2 hg => by (have hk : k = 0 := (by omega)); (rcases hk with rfl) <;> (first | exact std0 | exact PRun.sliceLoM tabOk rfl rfl nd rfl nd rfl (by omega) | exact PRun.sliceHiM tabOk rfl rfl nd rfl nd rfl (by omega) | exact PRun.sliceM tabOk rfl rfl nd rfl nd rfl nd rfl (by omega) | exact std1)) (by exact rfl) ?_
      | refine YQ.q (a := 0) (b := 1) rfl (by decide +kernel) (by decide +kernel) rfl rfl rfl (fun k h1 h2 hg => by (have hk : k = 0 ∨ k = 1 := (by omega)); (rcases hk with rfl | rfl) <;> (first | exact std0 | exact PRun.sliceLoM tabOk rfl rfl nd rfl nd rfl (by omega) | exact PRun.sliceHiM tabOk rfl rfl nd rfl nd rfl (by omega) | exact PRun.sliceM tabOk rfl rfl nd rfl nd rfl nd rfl (by omega) | exact std1)) (by exact rfl) ?_
      | refine YQ.q (a := 1) (b := 1) rfl (by decide +kernel) (by decide +kernel) rfl rfl rfl (fun k h1 h2 hg => by (have hk : k = 1 := (by omega)); (rcases hk with rfl) <;> (first | exact std0 | exact PRun.sliceLoM tabOk rfl rfl nd rfl nd rfl (by omega) | exact PRun.sliceHiM tabOk rfl rfl nd rfl nd rfl (by omega) | exact PRun.sliceM tabOk rfl rfl nd rfl nd rfl nd rfl (by omega) | exact std1)) (by exact rfl) ?_
      | refine YQ.q (a := 0) (b := 2) rfl (by decide +kernel) (by decide +kernel) rfl rfl rfl (fun k h1 h2 hg => by (have hk : k = 0 ∨ k = 1 ∨ k = 2 := (by omega)); (rcases hk with rfl | rfl | rfl) <;> (first | exact std0 | exact PRun.sliceLoM tabOk rfl rfl nd rfl nd rfl (by omega) | exact PRun.sliceHiM tabOk rfl rfl nd rfl nd rfl (by omega) | exact PRun.sliceM tabOk rfl rfl nd rfl nd rfl nd rfl (by omega) | exact std1)) (by exact rfl) ?_
      | refine YQ.q (a := 1) (b := 2) rfl (by decide +kernel) (by decide +kernel) rfl rfl rfl (fun k h1 h2 hg => by (have hk : k = 1 ∨ k = 2 := (by omega)); (rcases hk with rfl | rfl) <;> (first | exact std0 | exact PRun.sliceLoM tabOk rfl rfl nd rfl nd rfl (by omega) | exact PRun.sliceHiM tabOk rfl rfl nd rfl nd rfl (by omega) | exact PRun.sliceM tabOk rfl rfl nd rfl nd rfl nd rfl (by omega) | exact std1)) (by exact rfl) ?_
      | refine YQ.q (a := 2) (b := 2) rfl (by decide +kernel) (by decide +kernel) rfl rfl rfl (fun k h1 h2 hg => by (have hk : k = 2 := (by omega)); (rcases hk with rfl) <;> (first | exact std0 | exact PRun.sliceLoM tabOk rfl rfl nd rfl nd rfl (by omega) | exact PRun.sliceHiM tabOk rfl rfl nd rfl nd rfl (by omega) | exact PRun.sliceM tabOk rfl rfl nd rfl nd rfl nd rfl (by omega) | exact std1)) (by exact rfl) ?_
      | refine YQ.q (a := 0) (b := 3) rfl (by decide +kernel) (by decide +kernel) rfl rfl rfl (fun k h1 h2 hg => by (have hk : k = 0 ∨ k = 1 ∨ k = 2 ∨ k = 3 := (by omega)); (rcases hk with rfl | rfl | rfl | rfl) <;> (first | exact std0 | exact PRun.sliceLoM tabOk rfl rfl nd rfl nd rfl (by omega) | exact PRun.sliceHiM tabOk rfl rfl nd rfl nd rfl (by omega) | exact PRun.sliceM tabOk rfl rfl nd rfl nd rfl nd rfl (by omega) | exact std1)) (by exact rfl) ?_
      | refine YQ.q (a := 1) (b := 3) rfl (by decide +kernel) (by decide +kernel) rfl rfl rfl (fun k h1 h2 hg => by (have hk : k = 1 ∨ k = 2 ∨ k = 3 := (by omega)); (rcases hk with rfl | rfl | rfl) <;> (first | exact std0 | exact PRun.sliceLoM tabOk rfl rfl nd rfl nd rfl (by omega) | exact PRun.sliceHiM tabOk rfl rfl nd rfl nd rfl (by omega) | exact PRun.sliceM tabOk rfl rfl nd rfl nd rfl nd rfl (by omega) | exact std1)) (by exact rfl) ?_
      | refine YQ.q (a := 2) (b := 3) rfl (by decide +kernel) (by decide +kernel) rfl rfl rfl (fun k h1 h2 hg => by (have hk : k = 2 ∨ k = 3 := (by omega)); (rcases hk with rfl | rfl) <;> (first | exact std0 | exact PRun.sliceLoM tabOk rfl rfl nd rfl nd rfl (by omega) | exact PRun.sliceHiM tabOk rfl rfl nd rfl nd rfl (by omega) | exact PRun.sliceM tabOk rfl rfl nd rfl nd rfl nd rfl (by omega) | exact std1)) (by exact rfl) ?_
      | refine YQ.q (a := 3) (b := 3) rfl (by decide +kernel) (by decide +kernel) rfl rfl rfl (fun k h1 h2 hg => by (have hk : k = 3 := (by omega)); (rcases hk with rfl) <;> (first | exact std0 | exact PRun.sliceLoM tabOk rfl rfl nd rfl nd rfl (by omega) | exact PRun.sliceHiM tabOk rfl rfl nd rfl nd rfl (by omega) | exact PRun.sliceM tabOk rfl rfl nd rfl nd rfl nd rfl (by omega) | exact std1)) (by exact rfl) ?_)
    refine YQ.e (v := .sl 4 (tkB a k ++ dpB a k) (.own 2)) (d := some 48) rfl rfl rfl ?_ ?_
    · intro env' he
      by_cases hk0 : k = 0
      · exact EStep.appendAt (l := 2) tabOk rfl rfl rfl (by decide) (Rd.w ((rdv_congr (he 42 (by decide +kernel))).trans (by show some (.sl 4 (tkB a k) (if k = 0 then .fresh else .own 2)) = some (AV.sl 4 [] .fresh); rw [if_pos hk0, hX1 hk0])) (by rw [rdn_congr (he 42 (by decide +kernel))]; first | exact True.intro | exact rfl)) (by show some (AObj.own 4 (tkB a k).length) = some (AObj.own 4 0); rw [hX1 hk0]; rfl) (Rd.w ((rdv_congr (he 47 (by decide +kernel))).trans rfl) (by rw [rdn_congr (he 47 (by decide +kernel))]; first | exact True.intro | exact rfl)) (.sl rfl (one_encB _)) (by rw [List.length_map, List.length_drop]; omega) (LOk.of (tabOk.get rfl)) (LOk.of (tabOk.get rfl)) rfl rfl (by simp only [tkB, dpB, List.length_map, List.length_append, List.length_cons, List.length_nil, List.length_take, List.length_drop]; omega) (by simp only [tkB, dpB, List.length_map, List.length_append, List.length_cons, List.length_nil, List.length_take, List.length_drop]; omega) ⟨(by show env'.put 48 (.sl 4 (dpB a k) (.own 2)) = env'.put 48 (.sl 4 (tkB a k ++ dpB a k) (.own 2)); rw [hX1 hk0]; rfl), (by show [_, _, AObj.own 4 (dpB a k).length] = [_, _, AObj.own 4 (tkB a k ++ dpB a k).length]; rw [hX1 hk0]; rfl)⟩
      · exact EStep.appendOwn' (l := 2) tabOk rfl rfl rfl (by decide) (Rd.w ((rdv_congr (he 42 (by decide +kernel))).trans (by show some (.sl 4 (tkB a k) (if k = 0 then .fresh else .own 2)) = some (AV.sl 4 (tkB a k) (.own 2)); rw [if_neg hk0])) (by rw [rdn_congr (he 42 (by decide +kernel))]; first | exact True.intro | exact rfl)) rfl (Rd.w ((rdv_congr (he 47 (by decide +kernel))).trans rfl) (by rw [rdn_congr (he 47 (by decide +kernel))]; first | exact True.intro | exact rfl)) (.sl rfl (one_encB _)) (LOk.of (tabOk.get rfl)) (LOk.of (tabOk.get rfl)) rfl rfl (by simp only [tkB, dpB, List.length_map, List.length_append, List.length_cons, List.length_nil, List.length_take, List.length_drop]; omega) (by simp only [tkB, dpB, List.length_map, List.length_append, List.length_cons, List.length_nil, List.length_take, List.length_drop]; omega) ⟨rfl, rfl⟩
    repeat' (first
      | refine YQ.q (a := 0) (b := 0) rfl (by decide +kernel) (by decide +kernel) rfl rfl rfl (fun k h1 h2 hg => by (have hk : k = 0 := (by omega)); (rcases hk with rfl) <;> (first | exact std0 | exact std1)) (by exact rfl) ?_
      | refine YQ.q (a := 0) (b := 1) rfl (by decide +kernel) (by decide +kernel) rfl rfl rfl (fun k h1 h2 hg => by (have hk : k = 0 ∨ k = 1 := (by omega)); (rcases hk with rfl | rfl) <;> (first | exact std0 | exact std1)) (by exact rfl) ?_
      | refine YQ.q (a := 1) (b := 1) rfl (by decide +kernel) (by decide +kernel) rfl rfl rfl (fun k h1 h2 hg => by (have hk : k = 1 := (by omega)); (rcases hk with rfl) <;> (first | exact std0 | exact std1)) (by exact rfl) ?_
      | refine YQ.q (a := 0) (b := 2) rfl (by decide +kernel) (by decide +kernel) rfl rfl rfl (fun k h1 h2 hg => by (have hk : k = 0 ∨ k = 1 ∨ k = 2 := (by omega)); (rcases hk with rfl | rfl | rfl) <;> (first | exact std0 | exact std1)) (by exact rfl) ?_
      | refine YQ.q (a := 1) (b := 2) rfl (by decide +kernel) (by decide +kernel) rfl rfl rfl (fun k h1 h2 hg => by (have hk : k = 1 ∨ k = 2 := (by omega)); (rcases hk with rfl | rfl) <;> (first | exact std0 | exact std1)) (by exact rfl) ?_
      | refine YQ.q (a := 2) (b := 2) rfl (by decide +kernel) (by decide +kernel) rfl rfl rfl (fun k h1 h2 hg => by (have hk : k = 2 := (by omega)); (rcases hk with rfl) <;> (first | exact std0 | exact std1)) (by exact rfl) ?_
      | refine YQ.q (a := 0) (b := 3) rfl (by decide +kernel) (by decide +kernel) rfl rfl rfl (fun k h1 h2 hg => by (have hk : k = 0 ∨ k = 1 ∨ k = 2 ∨ k = 3 := (by omega)); (rcases hk with rfl | rfl | rfl | rfl) <;> (first | exact std0 | exact std1)) (by exact rfl) ?_
      | refine YQ.q (a := 1) (b := 3) rfl (by decide +kernel) (by decide +kernel) rfl rfl rfl (fun k h1 h2 hg => by (have hk : k = 1 ∨ k = 2 ∨ k = 3 := (by omega)); (rcases hk with rfl | rfl | rfl) <;> (first | exact std0 | exact std1)) (by exact rfl) ?_
      | refine YQ.q (a := 2) (b := 3) rfl (by decide +kernel) (by decide +kernel) rfl rfl rfl (fun k h1 h2 hg => by (have hk : k = 2 ∨ k = 3 := (by omega)); (rcases hk with rfl | rfl) <;> (first | exact std0 | exact std1)) (by exact rfl) ?_
      | refine YQ.q (a := 3) (b := 3) rfl (by decide +kernel) (by decide +kernel) rfl rfl rfl (fun k h1 h2 hg => by (have hk : k = 3 := (by omega)); (rcases hk with rfl) <;> (first | exact std0 | exact std1)) (by exact rfl) ?_)
    refine YQ.e (v := .any) (d := none) rfl rfl rfl ?_ ?_
    · intro env' he
      exact EStep.storeW tabOk rfl rfl ((rdv_congr (he 49 (by decide +kernel))).trans rfl) (by rw [rdn_congr (he 49 (by decide +kernel))]; first | exact True.intro | exact rfl) rfl ((rdv_congr (he 48 (by decide +kernel))).trans rfl) (by rw [rdn_congr (he 48 (by decide +kernel))]; first | exact True.intro | exact rfl) rfl rfl rfl rfl rfl rfl rfl ⟨rfl, rfl⟩
    repeat' (first
      | refine YQ.q (a := 0) (b := 0) rfl (by decide +kernel) (by decide +kernel) rfl rfl rfl (fun k h1 h2 hg => by (have hk : k = 0 := (by omega)); (rcases hk with rfl) <;> (first | exact std0 | exact std1)) (by exact rfl) ?_
      | refine YQ.q (a := 0) (b := 1) rfl (by decide +kernel) (by decide +kernel) rfl rfl rfl (fun k h1 h2 hg => by (have hk : k = 0 ∨ k = 1 := (by omega)); (rcases hk with rfl | rfl) <;> (first | exact std0 | exact std1)) (by exact rfl) ?_
      | refine YQ.q (a := 1) (b := 1) rfl (by decide +kernel) (by decide +kernel) rfl rfl rfl (fun k h1 h2 hg => by (have hk : k = 1 := (by omega)); (rcases hk with rfl) <;> (first | exact std0 | exact std1)) (by exact rfl) ?_
      | refine YQ.q (a := 0) (b := 2) rfl (by decide +kernel) (by decide +kernel) rfl rfl rfl (fun k h1 h2 hg => by (have hk : k = 0 ∨ k = 1 ∨ k = 2 := (by omega)); (rcases hk with rfl | rfl | rfl) <;> (first | exact std0 | exact std1)) (by exact rfl) ?_
      | refine YQ.q (a := 1) (b := 2) rfl (by decide +kernel) (by decide +kernel) rfl rfl rfl (fun k h1 h2 hg => by (have hk : k = 1 ∨ k = 2 := (by omega)); (rcases hk with rfl | rfl) <;> (first | exact std0 | exact std1)) (by exact rfl) ?_
      | refine YQ.q (a := 2) (b := 2) rfl (by decide +kernel) (by decide +kernel) rfl rfl rfl (fun k h1 h2 hg => by (have hk : k = 2 := (by omega)); (rcases hk with rfl) <;> (first | exact std0 | exact std1)) (by exact rfl) ?_
      | refine YQ.q (a := 0) (b := 3) rfl (by decide +kernel) (by decide +kernel) rfl rfl rfl (fun k h1 h2 hg => by (have hk : k = 0 ∨ k = 1 ∨ k = 2 ∨ k = 3 := (by omega)); (rcases hk with rfl | rfl | rfl | rfl) <;> (first | exact std0 | exact std1)) (by exact rfl) ?_
      | refine YQ.q (a := 1) (b := 3) rfl (by decide +kernel) (by decide +kernel) rfl rfl rfl (fun k h1 h2 hg => by (have hk : k = 1 ∨ k = 2 ∨ k = 3 := (by omega)); (rcases hk with rfl | rfl | rfl) <;> (first | exact std0 | exact std1)) (by exact rfl) ?_
      | refine YQ.q (a := 2) (b := 3) rfl (by decide +kernel) (by decide +kernel) rfl rfl rfl (fun k h1 h2 hg => by (have hk : k = 2 ∨ k = 3 := (by omega)); (rcases hk with rfl | rfl) <;> (first | exact std0 | exact std1)) (by exact rfl) ?_
      | refine YQ.q (a := 3) (b := 3) rfl (by decide +kernel) (by decide +kernel) rfl rfl rfl (fun k h1 h2 hg => by (have hk : k = 3 := (by omega)); (rcases hk with rfl) <;> (first | exact std0 | exact std1)) (by exact rfl) ?_)
    refine YQ.nil (hK _ _ ?_)
    clear hK K'
    show AWP _ _ _ _ _ [.var (encS a), LW a (.sl 4 (tkB a k ++ dpB a k) (.own 2)) (.sl 12 (a.notes.map encN) .no), .own 4 (tkB a k ++ dpB a k).length]
    refine AWP.keep [(2, .ptr 0 0), (5, .b true), (6, .int k), (7, .ptr 1 0)] ⟨rfl, rfl, rfl, rfl, True.intro⟩ ?_
    rw [cutB_eq]
    clear ltk ldp hX1 hce hh hu
    obtain ⟨u, hub⟩ : ∃ u, barI a k = u := ⟨_, rfl⟩
    have hcy := fun j (h : j < a.notes.length) n (hn : a.notes.getD j default = n) (e : n.bar ≠ (barI a k).id) => cutN_yes h hn e
    have hcn := fun j (h : j < a.notes.length) n (hn : a.notes.getD j default = n) (e : n.bar = (barI a k).id) => cutN_no h hn e
    rw [hub] at hcy hcn
    have hall : cutN a k a.notes.length = (cutB a k).notes := by unfold cutN cutB; rw [List.take_length]
    repeat' (first | refine AOps.q rfl rfl rfl (fun hg => by first | exact std0 | exact std1) (by exact rfl) ?_ | refine AWP.seq ?_ | refine AWP.regionK (fun K' hK => ?_) | (refine AOps.nil (hK _ _ ?_); clear hK K') | refine AOps.e (EStep.storeW tabOk rfl rfl rfl True.intro rfl rfl True.intro rfl rfl rfl rfl rfl rfl rfl ?_) | refine AWP.block ?_)
    refine AWP.ownNilV (v := 1) (i := 3) (sz := 12) rfl rfl ?_
    refine AWP.loopD (ι := Nat) (fun j => [(2, .ptr 0 0), (5, .b true), (6, .int k), (7, .ptr 1 0), (52, .sl 12 (a.notes.map encN) .no), (53, .int a.notes.length), (54, .int j)]) (fun j => [.var (encS a), LW a (.sl 4 ((cutB a k).bars.map encB) (.own 2)) (.sl 12 ((cutN a k j).map encN) (.own 3)), .own 4 ((cutB a k).bars.map encB).length, .own 12 ((cutN a k j).map encN).length])
      (fun j => j ≤ a.notes.length) (fun j => a.notes.length - j) 4 (fun _ => rfl) 0 (Nat.zero_le _) ⟨rfl, rfl, rfl, rfl, rfl, rfl, rfl, True.intro⟩ rfl (fun _ _ => rfl) (fun _ _ => rfl) ?_
    intro j hj
    have hlc := cutN_len a k j
    by_cases hlt : j < a.notes.length
    · obtain ⟨n, hn⟩ : ∃ n, a.notes.getD j default = n := ⟨_, rfl⟩
      by_cases e : n.bar = u.id
      · have ho := hcn j hlt n hn e
        have hbe : (n.bar == u.id) = true := beq_iff_eq.2 e
        repeat' (first | refine AOps.q rfl rfl rfl (fun hg => by first | exact PRun.eq (v := .iptr (encN (a.notes.getD ((j : Nat) : Int).toNat default))) (PRun.indexMW tabOk rfl rfl nd rfl nd rfl rfl (by omega)) (congrArg (fun x => AV.iptr (encN x)) (show a.notes.getD ((j : Nat) : Int).toNat default = n from hn)) | exact std0) (by exact rfl) ?_ | refine AWP.seq ?_ | refine AWP.regionK (fun K' hK => ?_) | (refine AOps.nil (hK _ _ ?_); clear hK K') | refine AOps.e (EStep.storeW tabOk rfl rfl rfl True.intro rfl rfl True.intro rfl rfl rfl rfl rfl rfl rfl ?_) | refine AOps.e (EStep.allocW tabOk rfl rfl rfl rfl rfl rfl ?_) | (refine AWP.condW rfl True.intro (fun hc => ?_) (fun hc => ?_) <;> (first | (simp only [dEt] at hc) | (simp only [dEf, iNl, iNe] at hc) | skip)) | refine AWP.block ?_ | refine AWP.exit ?_ | refine AWP.skip ?_ | refine AWP.drawK2 (by decide +kernel) (by kernel_rfl) (by decide +kernel) rfl (fun K' hK => ?_) | (refine AQ.nil (hK _ ?_); clear hK K') | refine AQ.q rfl rfl (fun hg => by first | exact PRun.eq (PRun.binW rfl rfl nd rfl nd rfl) (show AV.b (!(n.bar == u.id)) = AV.b false from congrArg (fun x => AV.b (!x)) hbe) | exact PRun.eq (v := .iptr (encB (a.bars.getD ((k : Nat) : Int).toNat default))) (PRun.indexMW tabOk rfl rfl nd rfl nd rfl rfl (by omega)) (congrArg (fun x => AV.iptr (encB x)) (show a.bars.getD ((k : Nat) : Int).toNat default = u from hub)) | exact std0) (by exact rfl) ?_)
        all_goals (first | (exfalso; omega) | (exfalso; simp at hc; done) | (exfalso; simp at hc; omega) | (exfalso; simp only [dEf, dEt] at hc; omega) | (rename_i h0; exfalso; simp at h0; done) | (rename_i h0; exfalso; simp at h0; omega) | skip)
        exact ⟨j + 1, hlt, by show a.notes.length - (j + 1) < a.notes.length - j; omega, ⟨rfl, rfl, rfl, rfl, rfl, rfl, rfl, True.intro⟩, by show _ = [_, LW a _ (.sl 12 ((cutN a k (j + 1)).map encN) (.own 3)), _, AObj.own 12 ((cutN a k (j + 1)).map encN).length]; rw [ho]; rfl⟩
      · have ho := hcy j hlt n hn e
        have hbe : (n.bar == u.id) = false := beq_eq_false_iff_ne.2 e
        have hom : (cutN a k (j + 1)).map encN = (cutN a k j).map encN ++ [encN n] := by rw [ho, List.map_append]; rfl
        repeat' (first | refine AOps.q rfl rfl rfl (fun hg => by first | exact PRun.eq (v := .iptr (encN (a.notes.getD ((j : Nat) : Int).toNat default))) (PRun.indexMW tabOk rfl rfl nd rfl nd rfl rfl (by omega)) (congrArg (fun x => AV.iptr (encN x)) (show a.notes.getD ((j : Nat) : Int).toNat default = n from hn)) | exact std0 | exact PRun.buildSlW tabOk rfl rfl nds) (by exact rfl) ?_ | refine AWP.seq ?_ | refine AWP.regionK (fun K' hK => ?_) | (refine AOps.nil (hK _ _ ?_); clear hK K') | refine AOps.e (EStep.storeW tabOk rfl rfl rfl True.intro rfl rfl True.intro rfl rfl rfl rfl rfl rfl rfl ?_) | refine AOps.e (EStep.allocW tabOk rfl rfl rfl rfl rfl rfl ?_) | refine AOps.e (EStep.appendOwn' tabOk rfl rfl rfl (by decide) (Rd.w rfl True.intro) rfl (Rd.w rfl True.intro) (.sl rfl (by first | (intro x hx; rcases List.mem_singleton.1 hx with rfl; rfl) | exact one_encN' _)) (LOk.of (tabOk.get rfl)) (LOk.of (tabOk.get rfl)) rfl rfl (by simp only [List.length_map, List.length_append, List.length_cons, List.length_nil, List.length_take, List.length_drop]; omega) (by simp only [List.length_map, List.length_append, List.length_cons, List.length_nil, List.length_take, List.length_drop]; omega) ?_) | (refine AWP.condW rfl True.intro (fun hc => ?_) (fun hc => ?_) <;> (first | (simp only [dEt] at hc) | (simp only [dEf, iNl, iNe] at hc) | skip)) | refine AWP.block ?_ | refine AWP.exit ?_ | refine AWP.skip ?_ | refine AWP.drawK2 (by decide +kernel) (by kernel_rfl) (by decide +kernel) rfl (fun K' hK => ?_) | (refine AQ.nil (hK _ ?_); clear hK K') | refine AQ.q rfl rfl (fun hg => by first | exact PRun.eq (PRun.binW rfl rfl nd rfl nd rfl) (show AV.b (!(n.bar == u.id)) = AV.b true from congrArg (fun x => AV.b (!x)) hbe) | exact PRun.eq (v := .iptr (encB (a.bars.getD ((k : Nat) : Int).toNat default))) (PRun.indexMW tabOk rfl rfl nd rfl nd rfl rfl (by omega)) (congrArg (fun x => AV.iptr (encB x)) (show a.bars.getD ((k : Nat) : Int).toNat default = u from hub)) | exact std0) (by exact rfl) ?_)
        all_goals (first | (exfalso; omega) | (exfalso; simp at hc; done) | (exfalso; simp at hc; omega) | (exfalso; simp only [dEf, dEt] at hc; omega) | (rename_i h0; exfalso; simp at h0; done) | (rename_i h0; exfalso; simp at h0; omega) | skip)
        exact ⟨j + 1, hlt, by show a.notes.length - (j + 1) < a.notes.length - j; omega, ⟨rfl, rfl, rfl, rfl, rfl, rfl, rfl, True.intro⟩, by show _ = [_, LW a _ (.sl 12 ((cutN a k (j + 1)).map encN) (.own 3)), _, AObj.own 12 ((cutN a k (j + 1)).map encN).length]; rw [hom]; rfl⟩
    · obtain rfl : j = a.notes.length := by omega
      rw [hall]
      clear hcy hcn hall hlc
      repeat' (first | refine AOps.q rfl rfl rfl (fun hg => by first | exact std0 | exact PRun.callW (b1) rfl rfl nd rfl nds | exact PRun.callW (n1) rfl rfl nd rfl nds | exact std1) (by exact rfl) ?_ | refine AWP.seq ?_ | refine AWP.regionK (fun K' hK => ?_) | (refine AOps.nil (hK _ _ ?_); clear hK K') | refine AOps.e (EStep.storeW tabOk rfl rfl rfl True.intro rfl rfl True.intro rfl rfl rfl rfl rfl rfl rfl ?_) | refine AOps.e (EStep.allocW tabOk rfl rfl rfl rfl rfl rfl ?_) | (refine AWP.condW rfl True.intro (fun hc => ?_) (fun hc => ?_) <;> (first | (simp only [dEt] at hc) | (simp only [dEf, iNl, iNe] at hc) | skip)) | refine AWP.block ?_ | refine AWP.exit ?_ | refine AWP.skip ?_ | refine AWP.ret ?_ | refine AWP.drawK2 (by decide +kernel) (by kernel_rfl) (by decide +kernel) rfl (fun K' hK => ?_) | (refine AQ.nil (hK _ ?_); clear hK K') | refine AQ.q rfl rfl (fun hg => by first | exact std0 | exact std1) (by exact rfl) ?_)
      all_goals (first | (exfalso; omega) | (exfalso; simp at hc; done) | (exfalso; simp at hc; omega) | (exfalso; simp only [dEf, dEt] at hc; omega) | (rename_i h0; exfalso; simp at h0; done) | (rename_i h0; exfalso; simp at h0; omega) | skip)
      clear b1 n1
      refine AWP.loopD (ι := Nat) (fun j => [(2, .ptr 0 0), (5, .b true), (7, .ptr 1 0), (12, .sl 2 (L.map encPr) .no), (116, .sl 2 (P.map encPr) .no), (117, .int P.length), (118, .int j)]) (fun _ => [.var (encS a), LW a (.sl 4 ((cutB a k).bars.map encB) (.own 2)) (.sl 12 ((cutB a k).notes.map encN) (.own 3)), .own 4 ((cutB a k).bars.map encB).length, .own 12 ((cutB a k).notes.map encN).length, .var (encA ⟨P, 2, T1⟩)])
        (fun j => j ≤ P.length) (fun j => P.length - j) 5 (fun _ => rfl) 0 (Nat.zero_le _) ⟨rfl, rfl, rfl, rfl, rfl, rfl, rfl, True.intro⟩ rfl (fun _ _ => rfl) (fun _ _ => rfl) ?_
      intro j hj
      by_cases hlt : j < P.length
      · have hz := hP2 j (by omega)
        have hsk := skip_lt (k := k) (show j + 1 < a.bars.length by omega)
        obtain ⟨v, hv⟩ : ∃ v, barI a (skip k j) = v := ⟨_, rfl⟩
        have hv2 := hcb j
        rw [hv] at hv2
        repeat' (first | refine AOps.q rfl rfl rfl (fun hg => by first | exact PRun.eq (v := .iptr (encPr (P.getD ((j : Nat) : Int).toNat default))) (PRun.indexMW tabOk rfl rfl nd rfl nd rfl rfl (by omega)) (congrArg (fun x => AV.iptr (encPr x)) hz) | exact std0 | exact std1) (by exact rfl) ?_ | refine AWP.seq ?_ | refine AWP.regionK (fun K' hK => ?_) | (refine AOps.nil (hK _ _ ?_); clear hK K') | refine AOps.e (EStep.storeW tabOk rfl rfl rfl True.intro rfl rfl True.intro rfl rfl rfl rfl rfl rfl rfl ?_) | refine AOps.e (EStep.allocW tabOk rfl rfl rfl rfl rfl rfl ?_) | (refine AWP.condW rfl True.intro (fun hc => ?_) (fun hc => ?_) <;> (first | (simp only [dEt] at hc) | (simp only [dEf, iNl, iNe] at hc) | skip)) | refine AWP.block ?_ | refine AWP.exit ?_ | refine AWP.skip ?_ | refine AWP.drawK2 (by decide +kernel) (by kernel_rfl) (by decide +kernel) rfl (fun K' hK => ?_) | (refine AQ.nil (hK _ ?_); clear hK K') | refine AQ.q rfl rfl (fun hg => by first | exact PRun.eq (v := .iptr (encB ((cutB a k).bars.getD ((j : Nat) : Int).toNat default))) (PRun.indexMW tabOk rfl rfl nd rfl nd rfl rfl (by omega)) (congrArg (fun x => AV.iptr (encB x)) (show (cutB a k).bars.getD ((j : Nat) : Int).toNat default = v from hv2)) | exact PRun.eq (v := .iptr (encB (a.bars.getD ((skip k j : Nat) : Int).toNat default))) (PRun.indexMW tabOk rfl rfl nd rfl nd rfl rfl (by omega)) (congrArg (fun x => AV.iptr (encB x)) (show a.bars.getD ((skip k j : Nat) : Int).toNat default = v from hv)) | exact std0 | exact PRun.eqN flBa' rfl rfl nd rfl nd rfl) (by exact rfl) ?_)
        all_goals (first | (exfalso; omega) | (exfalso; simp at hc; done) | (exfalso; simp at hc; omega) | (exfalso; simp only [dEf, dEt] at hc; omega) | (rename_i h0; exfalso; simp at h0; done) | (rename_i h0; exfalso; simp at h0; omega) | skip)
        refine ⟨j + 1, hlt, by show P.length - (j + 1) < P.length - j; omega, ⟨rfl, ?_, rfl, rfl, rfl, rfl, rfl, True.intro⟩, rfl⟩
        show AV.b _ = AV.b true
        simp
      · obtain rfl : j = P.length := by omega
        repeat' (first | refine AOps.q rfl rfl rfl (fun hg => by first | exact std0 | exact std1) (by exact rfl) ?_ | refine AWP.seq ?_ | refine AWP.regionK (fun K' hK => ?_) | (refine AOps.nil (hK _ _ ?_); clear hK K') | refine AOps.e (EStep.storeW tabOk rfl rfl rfl True.intro rfl rfl True.intro rfl rfl rfl rfl rfl rfl rfl ?_) | refine AOps.e (EStep.allocW tabOk rfl rfl rfl rfl rfl rfl ?_) | (refine AWP.condW rfl True.intro (fun hc => ?_) (fun hc => ?_) <;> (first | (simp only [dEt] at hc) | (simp only [dEf, iNl, iNe] at hc) | skip)) | refine AWP.block ?_ | refine AWP.exit ?_ | refine AWP.skip ?_ | refine AWP.drawK2 (by decide +kernel) (by kernel_rfl) (by decide +kernel) rfl (fun K' hK => ?_) | refine AQ.q rfl rfl (fun hg => by first | exact std0 | exact std1) (by exact rfl) ?_)
        all_goals (first | (exfalso; omega) | (exfalso; simp at hc; done) | (exfalso; simp at hc; omega) | (exfalso; simp only [dEf, dEt] at hc; omega) | (rename_i h0; exfalso; simp at h0; done) | (rename_i h0; exfalso; simp at h0; omega) | skip)
        refine AWP.loopD (ι := Nat) (fun j => [(2, .ptr 0 0), (5, .b true), (7, .ptr 1 0), (145, .sl 2 (L.map encPr) .no), (146, .int L.length), (147, .int j)]) (fun _ => [.var (encS a), LW a (.sl 4 ((cutB a k).bars.map encB) (.own 2)) (.sl 12 ((cutB a k).notes.map encN) (.own 3)), .own 4 ((cutB a k).bars.map encB).length, .own 12 ((cutB a k).notes.map encN).length, .var (encA ⟨P, 2, T1⟩)])
          (fun j => j ≤ L.length) (fun j => L.length - j) 5 (fun _ => rfl) 0 (Nat.zero_le _) ⟨rfl, rfl, rfl, rfl, rfl, rfl, True.intro⟩ rfl (fun _ _ => rfl) (fun _ _ => rfl) ?_
        intro j hj
        by_cases hlt : j < L.length
        · have hz := hL2 j (by omega)
          obtain ⟨n, hn⟩ : ∃ n, (cutB a k).notes.getD j default = n := ⟨_, rfl⟩
          rw [hn] at hz
          repeat' (first | refine AOps.q rfl rfl rfl (fun hg => by first | exact PRun.eq (v := .iptr (encPr (L.getD ((j : Nat) : Int).toNat default))) (PRun.indexMW tabOk rfl rfl nd rfl nd rfl rfl (by omega)) (congrArg (fun x => AV.iptr (encPr x)) hz) | exact std0) (by exact rfl) ?_ | refine AWP.seq ?_ | refine AWP.regionK (fun K' hK => ?_) | (refine AOps.nil (hK _ _ ?_); clear hK K') | refine AOps.e (EStep.storeW tabOk rfl rfl rfl True.intro rfl rfl True.intro rfl rfl rfl rfl rfl rfl rfl ?_) | refine AOps.e (EStep.allocW tabOk rfl rfl rfl rfl rfl rfl ?_) | (refine AWP.condW rfl True.intro (fun hc => ?_) (fun hc => ?_) <;> (first | (simp only [dEt] at hc) | (simp only [dEf, iNl, iNe] at hc) | skip)) | refine AWP.block ?_ | refine AWP.exit ?_ | refine AWP.skip ?_ | refine AWP.ret ?_ | refine AWP.drawK2 (by decide +kernel) (by kernel_rfl) (by decide +kernel) rfl (fun K' hK => ?_) | (refine AQ.nil (hK _ ?_); clear hK K') | refine AQ.q rfl rfl (fun hg => by first | exact PRun.eq (v := .iptr (encN ((cutB a k).notes.getD ((j : Nat) : Int).toNat default))) (PRun.indexMW tabOk rfl rfl nd rfl nd rfl rfl (by omega)) (congrArg (fun x => AV.iptr (encN x)) (show (cutB a k).notes.getD ((j : Nat) : Int).toNat default = n from hn)) | exact std0) (by exact rfl) ?_)
          all_goals (first | (exfalso; omega) | (exfalso; simp at hc; done) | (exfalso; simp at hc; omega) | (exfalso; simp only [dEf, dEt] at hc; omega) | (rename_i h0; exfalso; simp at h0; done) | (rename_i h0; exfalso; simp at h0; omega) | skip)
          refine ⟨j + 1, hlt, by show L.length - (j + 1) < L.length - j; omega, ⟨rfl, ?_, rfl, rfl, rfl, rfl, True.intro⟩, rfl⟩
          show AV.b _ = AV.b true
          simp
        · repeat' (first | refine AOps.q rfl rfl rfl (fun hg => by first | exact std0 | exact std1) (by exact rfl) ?_ | refine AWP.seq ?_ | refine AWP.regionK (fun K' hK => ?_) | (refine AOps.nil (hK _ _ ?_); clear hK K') | refine AOps.e (EStep.storeW tabOk rfl rfl rfl True.intro rfl rfl True.intro rfl rfl rfl rfl rfl rfl rfl ?_) | refine AOps.e (EStep.allocW tabOk rfl rfl rfl rfl rfl rfl ?_) | (refine AWP.condW rfl True.intro (fun hc => ?_) (fun hc => ?_) <;> (first | (simp only [dEt] at hc) | (simp only [dEf, iNl, iNe] at hc) | skip)) | refine AWP.block ?_ | refine AWP.exit ?_ | refine AWP.skip ?_ | refine AWP.ret ?_ | refine AWP.drawK2 (by decide +kernel) (by kernel_rfl) (by decide +kernel) rfl (fun K' hK => ?_) | (refine AQ.nil (hK _ ?_); clear hK K') | refine AQ.q rfl rfl (fun hg => by first | exact std0 | exact std1) (by exact rfl) ?_)
          all_goals (first | (exfalso; omega) | (exfalso; simp at hc; done) | (exfalso; simp at hc; omega) | (exfalso; simp only [dEf, dEt] at hc; omega) | (rename_i h0; exfalso; simp at h0; done) | (rename_i h0; exfalso; simp at h0; omega) | skip)
          exact ⟨.inr rfl, Ent.b rfl⟩
  · cases hg : usab a a with
    | false =>
      rw [hg] at hu
      refine PCall.body Tryz.func8 rfl rfl Tryz.ntmps8 rfl rfl ?_
      repeat' (first | refine AOps.q rfl rfl rfl (fun hg => by first | exact std0 | exact PRun.callW (hh) rfl rfl nd rfl nds | exact PRun.callW (hu) rfl rfl nd rfl nds | exact (Bool.noConfusion (show false = true from hg) : PRun _ _ _ _ (.b false)) | exact std1) (by exact rfl) ?_ | refine AWP.seq ?_ | refine AWP.regionK (fun K' hK => ?_) | (refine AOps.nil (hK _ _ ?_); clear hK K') | refine AOps.e (EStep.boxW rfl rfl rfl rfl rfl True.intro rfl rfl ?_) | refine AOps.e (EStep.storeW tabOk rfl rfl rfl True.intro rfl rfl True.intro rfl rfl rfl rfl rfl rfl rfl ?_) | refine AOps.e (EStep.allocW tabOk rfl rfl rfl rfl rfl rfl ?_) | (refine AWP.condW rfl True.intro (fun hc => ?_) (fun hc => ?_) <;> (first | (simp only [dEt] at hc) | (simp only [dEf, iNl, iNe] at hc) | skip)) | refine AWP.skip ?_ | refine AWP.ret ?_)
      · exact ⟨.inr rfl, Ent.b rfl⟩
      all_goals (exfalso; simp at hc)
    | true =>
      rw [hg] at hu
      refine PCall.body Tryz.func8 rfl rfl Tryz.ntmps8 rfl rfl ?_
      repeat' (first | refine AOps.q rfl rfl rfl (fun hg => by first | exact std0 | exact PRun.callW (hh) rfl rfl nd rfl nds | exact PRun.callW (hu) rfl rfl nd rfl nds | exact std1) (by exact rfl) ?_ | refine AWP.seq ?_ | refine AWP.regionK (fun K' hK => ?_) | (refine AOps.nil (hK _ _ ?_); clear hK K') | refine AOps.e (EStep.boxW rfl rfl rfl rfl rfl True.intro rfl rfl ?_) | refine AOps.e (EStep.storeW tabOk rfl rfl rfl True.intro rfl rfl True.intro rfl rfl rfl rfl rfl rfl rfl ?_) | refine AOps.e (EStep.allocW tabOk rfl rfl rfl rfl rfl rfl ?_) | (refine AWP.condW rfl True.intro (fun hc => ?_) (fun hc => ?_) <;> (first | (simp only [dEt] at hc) | (simp only [dEf, iNl, iNe] at hc) | skip)) | refine AWP.skip ?_ | refine AWP.ret ?_)
      · exact ⟨.inr rfl, Ent.b rfl⟩
      all_goals (exfalso; apply hg0; simp at hc; exact ⟨hg, by omega⟩)
end Go.Proofs.YtekfpcgagoidcaaGreatDoor.Al

