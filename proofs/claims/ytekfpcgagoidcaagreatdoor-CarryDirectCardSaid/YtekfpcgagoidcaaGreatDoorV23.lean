/- Contracts by content: slices.Reverse over pairs. No statement is proved here. -/
import Derived.Test.YtekfpcgagoidcaaGreatDoorV19
set_option linter.unusedVariables false
set_option linter.unusedSimpArgs false
namespace Go.Proofs.YtekfpcgagoidcaaGreatDoor.Al
open Go.Ab Go.Sort
attribute [local irreducible] AWP AOps EStep AQ PStep PRun PCall TCall VCall
def revP (l : PL) (k : Nat) : PL := (List.range l.length).map fun i => if i < k ∨ l.length ≤ i + k then l.getD (l.length - 1 - i) default else l.getD i default
theorem revP_len (l : PL) (k : Nat) : (revP l k).length = l.length := by simp [revP]
theorem revP_at (l : PL) (k : Nat) {i : Nat} (h : i < l.length) : (revP l k).getD i default = if i < k ∨ l.length ≤ i + k then l.getD (l.length - 1 - i) default else l.getD i default := by
  unfold revP; rw [zBe, zA9, zD2 h]; rfl
theorem ext_getD {l m : PL} (h : l.length = m.length) (hg : ∀ i, i < l.length → l.getD i default = m.getD i default) : l = m := by
  refine List.ext_getElem h fun i h1 h2 => ?_
  have := hg i h1
  rwa [getD_lt h1, getD_lt h2] at this
theorem revP_zero (l : PL) : revP l 0 = l := by
  refine ext_getD (revP_len l 0) fun i h => ?_
  rw [revP_len] at h
  rw [revP_at l 0 h, if_neg (by omega)]
theorem revP_end {l : PL} {k : Nat} (h : l.length ≤ 2 * k + 1) : revP l k = l.reverse := by
  refine ext_getD (by rw [revP_len, zBp]) fun i hi => ?_
  rw [revP_len] at hi
  rw [revP_at l k hi]
  have e : l.reverse.getD i default = l.getD (l.length - 1 - i) default := by
    rw [getD_lt (by rw [zBp]; exact hi), List.getElem_reverse, getD_lt (by omega)]
  rw [e]
  split
  · rfl
  · rename_i g
    have : l.length - 1 - i = i := by omega
    rw [this]
theorem set_getD {l : PL} {j : Nat} (v : Int × Int) {i : Nat} (h : i < l.length) : (l.set j v).getD i default = if j = i then v else l.getD i default := by
  rw [zBe, List.getElem?_set]
  split
  · rename_i e; subst e; rw [if_pos h]; rfl
  · rw [zBe]
theorem revP_set {l : PL} {k : Nat} (h : k + k + 1 < l.length) : ((revP l k).set k (l.getD (l.length - 1 - k) default)).set (l.length - 1 - k) (l.getD k default) = revP l (k + 1) := by
  refine ext_getD (by rw [zD0, zD0, revP_len, revP_len]) fun i hi => ?_
  rw [zD0, zD0, revP_len] at hi
  rw [set_getD _ (by rw [zD0, revP_len]; exact hi), set_getD _ (by rw [revP_len]; exact hi), revP_at l k hi, revP_at l (k + 1) hi]
  by_cases h1 : l.length - 1 - k = i
  · rw [if_pos h1, if_pos (by omega), ← h1, show l.length - 1 - (l.length - 1 - k) = k by omega]
  · rw [if_neg h1]
    by_cases h2 : k = i
    · subst h2; rw [if_pos rfl, if_pos (by omega)]
    · rw [if_neg h2]
      by_cases h3 : i < k ∨ l.length ≤ i + k
      · rw [if_pos h3, if_pos (by omega)]
      · rw [if_neg h3, if_neg (by omega)]
def RS (p : Nat → AObj) (ver : Nat) (l : PL) : Store := [p 0, p 1, p 2, p 3, p 4, p 5, p 6, p 7, p 8, p 9, p 10, p 11, p 12, .arr 2 ver (l.map encPr)]
theorem okArr2 (m ver : Nat) (l : PL) : okObj m (.arr 2 ver (l.map encPr)) = true := by
  show (l.map encPr).all _ = true
  rw [zA5]; intro x hx
  obtain ⟨p, _, rfl⟩ := zAp.1 hx
  rfl
theorem RS_ok {p : Nat → AObj} (hp : ∀ i, okObj 14 (p i) = true) (ver : Nat) (l : PL) : (RS p ver l).all (okObj 14) = true := by
  simp only [RS, zBg, zBm, hp, okArr2]; rfl
theorem encPr_set (l : PL) (i : Nat) (v : Int × Int) : (l.map encPr).set i (encPr v) = (l.set i v).map encPr := by rw [List.map_set]
set_option maxHeartbeats 8000000 in
set_option maxRecDepth 20000 in
theorem reverse_spec {p : Nat → AObj} (hp : ∀ i, okObj 14 (p i) = true) (ver : Nat) (l : PL) (hl : l.length ≤ 1000000) :
    TCall Tryz.prog 50 [.sla 13 2 0 l.length ver] (RS p ver l) (fun r s => r = .tup [] ∧ s = RS p ver l.reverse) := by
  refine TCall.body Tryz.func50 rfl rfl Tryz.ntmps50 rfl rfl ?_
  repeat' (first | refine aoQ rfl rfl rfl (fun hg => by first | exact std0 | exact PRun.lenA tabOk rfl rfl nd rfl) (by exact rfl) ?_ | refine sqW ?_ | refine rgK (fun K' hK => ?_) | (refine aoN (hK _ _ ?_); clear hK K') | refine blK ?_)
  refine lpD (ι := Nat) (fun q => [(0, .sla 13 2 0 l.length ver), (2, .int q), (3, .int ((l.length : Int) - 1 - q))]) (fun q => RS p ver (revP l q)) (fun q => 2 * q ≤ l.length + 1) (fun q => l.length - q) 14 (fun _ => rfl) 0 (nZl _) ⟨rfl, rfl, ?_, tI⟩ (by show _ = RS p ver (revP l 0); rw [revP_zero]) (fun _ _ => rfl) (fun q _ => RS_ok hp ver _) ?_
  · show AV.int _ = AV.int _
    exact congrArg AV.int (by omega)
  intro q hk
  by_cases hlt : 2 * q + 1 < l.length
  · have hst := revP_set (l := l) (k := q) (by omega)
    have hA := revP_len l q
    obtain ⟨u, hu⟩ : ∃ u, l.getD q default = u := ⟨_, rfl⟩
    obtain ⟨v, hv⟩ : ∃ v, l.getD (l.length - 1 - q) default = v := ⟨_, rfl⟩
    have e1 : (revP l q).getD q default = u := by rw [revP_at l q (by omega), if_neg (by omega)]; exact hu
    have e2 : (revP l q).getD (l.length - 1 - q) default = v := by rw [revP_at l q (by omega), if_neg (by omega)]; exact hv
    rw [hu, hv] at hst
    generalize hr : revP l q = A at *
    repeat' (first | refine aoQ rfl rfl rfl (fun hg => by exact std0) (by exact rfl) ?_ | refine sqW ?_ | refine rgK (fun K' hK => ?_) | (refine aoN (hK _ _ ?_); clear hK K') | (refine cdW rfl tI (fun hc => ?_) (fun hc => ?_) <;> (first | (simp only [dEt] at hc) | (simp only [dEf, zA0, zA1] at hc) | skip)) | refine blK ?_ | refine exW ?_ | refine skW ?_)
    all_goals (first | (exfalso; omega) | (exfalso; simp at hc; done) | (exfalso; simp at hc; omega) | (exfalso; simp only [dEf, dEt] at hc; omega) | (rename_i h0; exfalso; simp at h0; done) | (rename_i h0; exfalso; simp at h0; omega) | skip)
    refine AWP.drawYM effOp (fun j => match j with | 0 => RS p ver A | 1 => RS p ver (A.set q v) | _ => RS p ver ((A.set q v).set (l.length - 1 - q) u)) rfl (by kernel_rfl) (by decide +kernel) rfl (by decide +kernel) (fun K' hK => ?_)
    repeat' (first
      | refine yqQ (a := 0) (b := 0) rfl (by decide +kernel) (by decide +kernel) rfl rfl rfl (fun k h1 h2 hg => by (have hk : k = 0 := (by omega)); (rcases hk with rfl) <;> (first | exact PRun.eq (v := .agg (encPr (A.getD q default))) (PRun.loadEM (f := encPr) (xs := A) (l := 13) (i := q) tabOk rfl rfl nd rfl (by omega) rfl rfl) (congrArg (fun x => AV.agg (encPr x)) e1) | exact PRun.eq (v := .agg (encPr (A.getD (l.length - 1 - q) default))) (PRun.loadEM (f := encPr) (xs := A) (l := 13) (i := l.length - 1 - q) tabOk rfl rfl nd rfl (by omega) rfl rfl) (congrArg (fun x => AV.agg (encPr x)) e2) | exact PRun.eq (v := .eptr 13 2 ((l.length : Int) - 1 - q).toNat 0 ver) (PRun.indexA0 (i := (l.length : Int) - 1 - q) tabOk rfl rfl nd rfl nd rfl (zAb _) rfl (by omega)) (congrArg (fun n => AV.eptr 13 2 n 0 ver) (show ((l.length : Int) - 1 - q).toNat = l.length - 1 - q by omega)) | exact PRun.eq (v := .eptr 13 2 ((q : Nat) : Int).toNat 0 ver) (PRun.indexA0 (i := ((q : Nat) : Int)) tabOk rfl rfl nd rfl nd rfl (zAb _) rfl (by omega)) (show AV.eptr 13 2 ((q : Nat) : Int).toNat 0 ver = AV.eptr 13 2 q 0 ver from rfl) | exact std0 | exact std1)) (by exact rfl) ?_
      | refine yqQ (a := 0) (b := 1) rfl (by decide +kernel) (by decide +kernel) rfl rfl rfl (fun k h1 h2 hg => by (have hk : k = 0 ∨ k = 1 := (by omega)); (rcases hk with rfl | rfl) <;> (first | exact PRun.eq (v := .agg (encPr (A.getD q default))) (PRun.loadEM (f := encPr) (xs := A) (l := 13) (i := q) tabOk rfl rfl nd rfl (by omega) rfl rfl) (congrArg (fun x => AV.agg (encPr x)) e1) | exact PRun.eq (v := .agg (encPr (A.getD (l.length - 1 - q) default))) (PRun.loadEM (f := encPr) (xs := A) (l := 13) (i := l.length - 1 - q) tabOk rfl rfl nd rfl (by omega) rfl rfl) (congrArg (fun x => AV.agg (encPr x)) e2) | exact PRun.eq (v := .eptr 13 2 ((l.length : Int) - 1 - q).toNat 0 ver) (PRun.indexA0 (i := (l.length : Int) - 1 - q) tabOk rfl rfl nd rfl nd rfl (zAb _) rfl (by omega)) (congrArg (fun n => AV.eptr 13 2 n 0 ver) (show ((l.length : Int) - 1 - q).toNat = l.length - 1 - q by omega)) | exact PRun.eq (v := .eptr 13 2 ((q : Nat) : Int).toNat 0 ver) (PRun.indexA0 (i := ((q : Nat) : Int)) tabOk rfl rfl nd rfl nd rfl (zAb _) rfl (by omega)) (show AV.eptr 13 2 ((q : Nat) : Int).toNat 0 ver = AV.eptr 13 2 q 0 ver from rfl) | exact std0 | exact std1)) (by exact rfl) ?_
      | refine yqQ (a := 1) (b := 1) rfl (by decide +kernel) (by decide +kernel) rfl rfl rfl (fun k h1 h2 hg => by (have hk : k = 1 := (by omega)); (rcases hk with rfl) <;> (first | exact PRun.eq (v := .agg (encPr (A.getD q default))) (PRun.loadEM (f := encPr) (xs := A) (l := 13) (i := q) tabOk rfl rfl nd rfl (by omega) rfl rfl) (congrArg (fun x => AV.agg (encPr x)) e1) | exact PRun.eq (v := .agg (encPr (A.getD (l.length - 1 - q) default))) (PRun.loadEM (f := encPr) (xs := A) (l := 13) (i := l.length - 1 - q) tabOk rfl rfl nd rfl (by omega) rfl rfl) (congrArg (fun x => AV.agg (encPr x)) e2) | exact PRun.eq (v := .eptr 13 2 ((l.length : Int) - 1 - q).toNat 0 ver) (PRun.indexA0 (i := (l.length : Int) - 1 - q) tabOk rfl rfl nd rfl nd rfl (zAb _) rfl (by omega)) (congrArg (fun n => AV.eptr 13 2 n 0 ver) (show ((l.length : Int) - 1 - q).toNat = l.length - 1 - q by omega)) | exact PRun.eq (v := .eptr 13 2 ((q : Nat) : Int).toNat 0 ver) (PRun.indexA0 (i := ((q : Nat) : Int)) tabOk rfl rfl nd rfl nd rfl (zAb _) rfl (by omega)) (show AV.eptr 13 2 ((q : Nat) : Int).toNat 0 ver = AV.eptr 13 2 q 0 ver from rfl) | exact std0 | exact std1)) (by exact rfl) ?_
      | refine yqQ (a := 0) (b := 2) rfl (by decide +kernel) (by decide +kernel) rfl rfl rfl (fun k h1 h2 hg => by (have hk : k = 0 ∨ k = 1 ∨ k = 2 := (by omega)); (rcases hk with rfl | rfl | rfl) <;> (first | exact PRun.eq (v := .agg (encPr (A.getD q default))) (PRun.loadEM (f := encPr) (xs := A) (l := 13) (i := q) tabOk rfl rfl nd rfl (by omega) rfl rfl) (congrArg (fun x => AV.agg (encPr x)) e1) | exact PRun.eq (v := .agg (encPr (A.getD (l.length - 1 - q) default))) (PRun.loadEM (f := encPr) (xs := A) (l := 13) (i := l.length - 1 - q) tabOk rfl rfl nd rfl (by omega) rfl rfl) (congrArg (fun x => AV.agg (encPr x)) e2) | exact PRun.eq (v := .eptr 13 2 ((l.length : Int) - 1 - q).toNat 0 ver) (PRun.indexA0 (i := (l.length : Int) - 1 - q) tabOk rfl rfl nd rfl nd rfl (zAb _) rfl (by omega)) (congrArg (fun n => AV.eptr 13 2 n 0 ver) (show ((l.length : Int) - 1 - q).toNat = l.length - 1 - q by omega)) | exact PRun.eq (v := .eptr 13 2 ((q : Nat) : Int).toNat 0 ver) (PRun.indexA0 (i := ((q : Nat) : Int)) tabOk rfl rfl nd rfl nd rfl (zAb _) rfl (by omega)) (show AV.eptr 13 2 ((q : Nat) : Int).toNat 0 ver = AV.eptr 13 2 q 0 ver from rfl) | exact std0 | exact std1)) (by exact rfl) ?_
      | refine yqQ (a := 1) (b := 2) rfl (by decide +kernel) (by decide +kernel) rfl rfl rfl (fun k h1 h2 hg => by (have hk : k = 1 ∨ k = 2 := (by omega)); (rcases hk with rfl | rfl) <;> (first | exact PRun.eq (v := .agg (encPr (A.getD q default))) (PRun.loadEM (f := encPr) (xs := A) (l := 13) (i := q) tabOk rfl rfl nd rfl (by omega) rfl rfl) (congrArg (fun x => AV.agg (encPr x)) e1) | exact PRun.eq (v := .agg (encPr (A.getD (l.length - 1 - q) default))) (PRun.loadEM (f := encPr) (xs := A) (l := 13) (i := l.length - 1 - q) tabOk rfl rfl nd rfl (by omega) rfl rfl) (congrArg (fun x => AV.agg (encPr x)) e2) | exact PRun.eq (v := .eptr 13 2 ((l.length : Int) - 1 - q).toNat 0 ver) (PRun.indexA0 (i := (l.length : Int) - 1 - q) tabOk rfl rfl nd rfl nd rfl (zAb _) rfl (by omega)) (congrArg (fun n => AV.eptr 13 2 n 0 ver) (show ((l.length : Int) - 1 - q).toNat = l.length - 1 - q by omega)) | exact PRun.eq (v := .eptr 13 2 ((q : Nat) : Int).toNat 0 ver) (PRun.indexA0 (i := ((q : Nat) : Int)) tabOk rfl rfl nd rfl nd rfl (zAb _) rfl (by omega)) (show AV.eptr 13 2 ((q : Nat) : Int).toNat 0 ver = AV.eptr 13 2 q 0 ver from rfl) | exact std0 | exact std1)) (by exact rfl) ?_
      | refine yqQ (a := 2) (b := 2) rfl (by decide +kernel) (by decide +kernel) rfl rfl rfl (fun k h1 h2 hg => by (have hk : k = 2 := (by omega)); (rcases hk with rfl) <;> (first | exact PRun.eq (v := .agg (encPr (A.getD q default))) (PRun.loadEM (f := encPr) (xs := A) (l := 13) (i := q) tabOk rfl rfl nd rfl (by omega) rfl rfl) (congrArg (fun x => AV.agg (encPr x)) e1) | exact PRun.eq (v := .agg (encPr (A.getD (l.length - 1 - q) default))) (PRun.loadEM (f := encPr) (xs := A) (l := 13) (i := l.length - 1 - q) tabOk rfl rfl nd rfl (by omega) rfl rfl) (congrArg (fun x => AV.agg (encPr x)) e2) | exact PRun.eq (v := .eptr 13 2 ((l.length : Int) - 1 - q).toNat 0 ver) (PRun.indexA0 (i := (l.length : Int) - 1 - q) tabOk rfl rfl nd rfl nd rfl (zAb _) rfl (by omega)) (congrArg (fun n => AV.eptr 13 2 n 0 ver) (show ((l.length : Int) - 1 - q).toNat = l.length - 1 - q by omega)) | exact PRun.eq (v := .eptr 13 2 ((q : Nat) : Int).toNat 0 ver) (PRun.indexA0 (i := ((q : Nat) : Int)) tabOk rfl rfl nd rfl nd rfl (zAb _) rfl (by omega)) (show AV.eptr 13 2 ((q : Nat) : Int).toNat 0 ver = AV.eptr 13 2 q 0 ver from rfl) | exact std0 | exact std1)) (by exact rfl) ?_)
    refine YQ.e (v := .any) (d := none) rfl rfl rfl ?_ ?_
    · intro env' he
      refine EStep.storeE (l := 13) (i := q) (us := encPr v) tabOk rfl rfl ((rdv_congr (he 26 (by decide +kernel))).trans rfl) (by rw [rdn_congr (he 26 (by decide +kernel))]; first | exact tI | exact rfl) rfl (by rw [lLm]; omega) ((rdv_congr (he 21 (by decide +kernel))).trans rfl) (by rw [rdn_congr (he 21 (by decide +kernel))]; first | exact tI | exact rfl) rfl rfl rfl rfl rfl rfl ⟨rfl, ?_⟩
      rw [encPr_set]; rfl
    repeat' (first
      | refine yqQ (a := 0) (b := 0) rfl (by decide +kernel) (by decide +kernel) rfl rfl rfl (fun k h1 h2 hg => by (have hk : k = 0 := (by omega)); (rcases hk with rfl) <;> (first | exact PRun.eq (v := .eptr 13 2 ((l.length : Int) - 1 - q).toNat 0 ver) (PRun.indexA0 (i := (l.length : Int) - 1 - q) tabOk rfl rfl nd rfl nd rfl (zAb _) rfl (by omega)) (congrArg (fun n => AV.eptr 13 2 n 0 ver) (show ((l.length : Int) - 1 - q).toNat = l.length - 1 - q by omega)) | exact std0 | exact std1)) (by exact rfl) ?_
      | refine yqQ (a := 0) (b := 1) rfl (by decide +kernel) (by decide +kernel) rfl rfl rfl (fun k h1 h2 hg => by (have hk : k = 0 ∨ k = 1 := (by omega)); (rcases hk with rfl | rfl) <;> (first | exact PRun.eq (v := .eptr 13 2 ((l.length : Int) - 1 - q).toNat 0 ver) (PRun.indexA0 (i := (l.length : Int) - 1 - q) tabOk rfl rfl nd rfl nd rfl (zAb _) rfl (by omega)) (congrArg (fun n => AV.eptr 13 2 n 0 ver) (show ((l.length : Int) - 1 - q).toNat = l.length - 1 - q by omega)) | exact std0 | exact std1)) (by exact rfl) ?_
      | refine yqQ (a := 1) (b := 1) rfl (by decide +kernel) (by decide +kernel) rfl rfl rfl (fun k h1 h2 hg => by (have hk : k = 1 := (by omega)); (rcases hk with rfl) <;> (first | exact PRun.eq (v := .eptr 13 2 ((l.length : Int) - 1 - q).toNat 0 ver) (PRun.indexA0 (i := (l.length : Int) - 1 - q) tabOk rfl rfl nd rfl nd rfl (zAb _) rfl (by omega)) (congrArg (fun n => AV.eptr 13 2 n 0 ver) (show ((l.length : Int) - 1 - q).toNat = l.length - 1 - q by omega)) | exact std0 | exact std1)) (by exact rfl) ?_
      | refine yqQ (a := 0) (b := 2) rfl (by decide +kernel) (by decide +kernel) rfl rfl rfl (fun k h1 h2 hg => by (have hk : k = 0 ∨ k = 1 ∨ k = 2 := (by omega)); (rcases hk with rfl | rfl | rfl) <;> (first | exact PRun.eq (v := .eptr 13 2 ((l.length : Int) - 1 - q).toNat 0 ver) (PRun.indexA0 (i := (l.length : Int) - 1 - q) tabOk rfl rfl nd rfl nd rfl (zAb _) rfl (by omega)) (congrArg (fun n => AV.eptr 13 2 n 0 ver) (show ((l.length : Int) - 1 - q).toNat = l.length - 1 - q by omega)) | exact std0 | exact std1)) (by exact rfl) ?_
      | refine yqQ (a := 1) (b := 2) rfl (by decide +kernel) (by decide +kernel) rfl rfl rfl (fun k h1 h2 hg => by (have hk : k = 1 ∨ k = 2 := (by omega)); (rcases hk with rfl | rfl) <;> (first | exact PRun.eq (v := .eptr 13 2 ((l.length : Int) - 1 - q).toNat 0 ver) (PRun.indexA0 (i := (l.length : Int) - 1 - q) tabOk rfl rfl nd rfl nd rfl (zAb _) rfl (by omega)) (congrArg (fun n => AV.eptr 13 2 n 0 ver) (show ((l.length : Int) - 1 - q).toNat = l.length - 1 - q by omega)) | exact std0 | exact std1)) (by exact rfl) ?_
      | refine yqQ (a := 2) (b := 2) rfl (by decide +kernel) (by decide +kernel) rfl rfl rfl (fun k h1 h2 hg => by (have hk : k = 2 := (by omega)); (rcases hk with rfl) <;> (first | exact PRun.eq (v := .eptr 13 2 ((l.length : Int) - 1 - q).toNat 0 ver) (PRun.indexA0 (i := (l.length : Int) - 1 - q) tabOk rfl rfl nd rfl nd rfl (zAb _) rfl (by omega)) (congrArg (fun n => AV.eptr 13 2 n 0 ver) (show ((l.length : Int) - 1 - q).toNat = l.length - 1 - q by omega)) | exact std0 | exact std1)) (by exact rfl) ?_)
    refine YQ.e (v := .any) (d := none) rfl rfl rfl ?_ ?_
    · intro env' he
      refine EStep.storeE (l := 13) (i := l.length - 1 - q) (us := encPr u) tabOk rfl rfl ((rdv_congr (he 27 (by decide +kernel))).trans rfl) (by rw [rdn_congr (he 27 (by decide +kernel))]; first | exact tI | exact rfl) rfl (by rw [lLm, zD0]; omega) ((rdv_congr (he 25 (by decide +kernel))).trans rfl) (by rw [rdn_congr (he 25 (by decide +kernel))]; first | exact tI | exact rfl) rfl rfl rfl rfl rfl rfl ⟨rfl, ?_⟩
      rw [encPr_set]; rfl
    repeat' (first
      | refine yqQ (a := 0) (b := 0) rfl (by decide +kernel) (by decide +kernel) rfl rfl rfl (fun k h1 h2 hg => by (have hk : k = 0 := (by omega)); (rcases hk with rfl) <;> (first | exact std0 | exact std1)) (by exact rfl) ?_
      | refine yqQ (a := 0) (b := 1) rfl (by decide +kernel) (by decide +kernel) rfl rfl rfl (fun k h1 h2 hg => by (have hk : k = 0 ∨ k = 1 := (by omega)); (rcases hk with rfl | rfl) <;> (first | exact std0 | exact std1)) (by exact rfl) ?_
      | refine yqQ (a := 1) (b := 1) rfl (by decide +kernel) (by decide +kernel) rfl rfl rfl (fun k h1 h2 hg => by (have hk : k = 1 := (by omega)); (rcases hk with rfl) <;> (first | exact std0 | exact std1)) (by exact rfl) ?_
      | refine yqQ (a := 0) (b := 2) rfl (by decide +kernel) (by decide +kernel) rfl rfl rfl (fun k h1 h2 hg => by (have hk : k = 0 ∨ k = 1 ∨ k = 2 := (by omega)); (rcases hk with rfl | rfl | rfl) <;> (first | exact std0 | exact std1)) (by exact rfl) ?_
      | refine yqQ (a := 1) (b := 2) rfl (by decide +kernel) (by decide +kernel) rfl rfl rfl (fun k h1 h2 hg => by (have hk : k = 1 ∨ k = 2 := (by omega)); (rcases hk with rfl | rfl) <;> (first | exact std0 | exact std1)) (by exact rfl) ?_
      | refine yqQ (a := 2) (b := 2) rfl (by decide +kernel) (by decide +kernel) rfl rfl rfl (fun k h1 h2 hg => by (have hk : k = 2 := (by omega)); (rcases hk with rfl) <;> (first | exact std0 | exact std1)) (by exact rfl) ?_)
    refine YQ.nil (hK _ _ ?_)
    clear hK K'
    show AWP _ _ _ _ _ (RS p ver ((A.set q v).set (l.length - 1 - q) u))
    rw [hst]
    repeat' (first | refine aoQ rfl rfl rfl (fun hg => by exact std0) (by exact rfl) ?_ | refine rgK (fun K' hK => ?_) | (refine aoN (hK _ _ ?_); clear hK K'))
    refine ⟨q + 1, by omega, by omega, ⟨rfl, rfl, ?_, tI⟩, rfl⟩
    exact congrArg AV.int (by omega)
  · repeat' (first | refine aoQ rfl rfl rfl (fun hg => by exact std0) (by exact rfl) ?_ | refine sqW ?_ | refine rgK (fun K' hK => ?_) | (refine aoN (hK _ _ ?_); clear hK K') | (refine cdW rfl tI (fun hc => ?_) (fun hc => ?_) <;> (first | (simp only [dEt] at hc) | (simp only [dEf, zA0, zA1] at hc) | skip)) | refine blK ?_ | refine exW ?_ | refine skW ?_)
    all_goals (first | (exfalso; omega) | (exfalso; simp at hc; done) | (exfalso; simp at hc; omega) | (exfalso; simp only [dEf, dEt] at hc; omega) | (rename_i h0; exfalso; simp at h0; done) | (rename_i h0; exfalso; simp at h0; omega) | skip)
    refine ⟨.inl rfl, .tup [], RS p ver l.reverse, ⟨rfl, rfl⟩, ?_, nLr _, RS_ok hp ver _, rfl, rfl⟩
    show RS p ver (revP l q) = _
    rw [revP_end (by omega)]
set_option maxHeartbeats 4000000 in
theorem reverse0_spec {p : Nat → AObj} (hp : ∀ i, okObj 14 (p i) = true) (ver : Nat) :
    TCall Tryz.prog 50 [.sl 2 [] (.own 13)] (RS p ver []) (fun r s => r = .tup [] ∧ s = RS p ver []) := by
  refine TCall.body Tryz.func50 rfl rfl Tryz.ntmps50 rfl rfl ?_
  repeat' (first | refine aoQ rfl rfl rfl (fun hg => by first | exact std0 | exact std1) (by exact rfl) ?_ | refine sqW ?_ | refine rgK (fun K' hK => ?_) | (refine aoN (hK _ _ ?_); clear hK K') | refine blK ?_)
  refine lpD (ι := Unit) (fun _ => [(2, .int 0), (3, .int (-1))]) (fun _ => RS p ver []) (fun _ => True) (fun _ => 0) 14 (fun _ => rfl) () tI ⟨rfl, rfl, tI⟩ rfl (fun _ _ => rfl) (fun _ _ => RS_ok hp ver _) ?_
  rintro ⟨⟩ _
  repeat' (first | refine aoQ rfl rfl rfl (fun hg => by exact std0) (by exact rfl) ?_ | refine sqW ?_ | refine rgK (fun K' hK => ?_) | (refine aoN (hK _ _ ?_); clear hK K') | (refine cdW rfl tI (fun hc => ?_) (fun hc => ?_) <;> (first | (simp only [dEt] at hc) | (simp only [dEf, zA0, zA1] at hc) | skip)) | refine blK ?_ | refine exW ?_ | refine skW ?_)
  all_goals (first | (exfalso; omega) | (exfalso; simp at hc; done) | (exfalso; simp at hc; omega) | (exfalso; simp only [dEf, dEt] at hc; omega) | (rename_i h0; exfalso; simp at h0; done) | (rename_i h0; exfalso; simp at h0; omega) | skip)
  exact ⟨.inl rfl, .tup [], RS p ver [], ⟨rfl, rfl⟩, rfl, nLr _, RS_ok hp ver _, rfl, rfl⟩
end Go.Proofs.YtekfpcgagoidcaaGreatDoor.Al
