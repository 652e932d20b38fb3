/- Contracts by content: carry: numbers, versions, where one is found.  Contracts by content: the example of the laws over alignments.  Alignments in plain words: a table is looked at, cell by cell.  Contracts by content: align: isTable.  Regions that draw their order: a chain of effects whose order is told by several edges, one after the other.  Contracts by content: slices.Reverse over pairs. No statement is proved here. -/
import Derived.Test.YtekfpcgagoidcaaGreatDoorU16
import Derived.Test.YtekfpcgagoidcaaGreatDoorU18
import Derived.Test.YtekfpcgagoidcaaGreatDoorU19
import Derived.Test.YtekfpcgagoidcaaGreatDoorU21
set_option linter.unusedVariables false
set_option linter.unusedSimpArgs false
namespace Go.Ab
end Go.Ab
namespace Go.Proofs.YtekfpcgagoidcaaGreatDoor.Cy
open Go.Ab Go.Sort Al
attribute [local irreducible] AWP AOps EStep AQ PStep PRun PCall TCall VCall
def atS (l : List Score) (k : Nat) : Score := l.getD k default
def findV (l : List Score) (v : Int) : Int := findI (fun s : Score => s.version == v) l
def numOk (n : Int) : Bool := decide (1 ≤ n) && decide (n ≤ 1000000)
def stepV (l : List Score) (k : Nat) : Bool := scoreOk (atS l k) && (k == 0 || decide ((atS l (k - 1)).version < (atS l k).version))
def versOk (l : List Score) : Bool := (decide ((l.length : Int) ≥ 1) && decide ((l.length : Int) ≤ 100)) && (List.range l.length).all (stepV l)
theorem vers_no {l : List Score} {k : Nat} (hk : k < l.length) (h : stepV l k = false) : versOk l = false := by
 unfold versOk
 have : (List.range l.length).all (stepV l) = false := by
  rw [List.all_eq_false]; exact ⟨k, zB2.2 hk, by rw [h]; decide⟩
 rw [this, Bool.and_false]
theorem vers_yes {l : List Score} (h : ∀ k, k < l.length → stepV l k = true) : versOk l = (decide ((l.length : Int) ≥ 1) && decide ((l.length : Int) ≤ 100)) := by
 unfold versOk
 rw [zA7.2 fun k hk => h k (zB2.1 hk), Bool.and_true]
theorem isNumber_spec (n : Int) : PCall Tryz.prog 68 [.int n] (.b (numOk n)) := by
 refine PCall.body Tryz.func68 rfl rfl Tryz.ntmps68 rfl rfl ?_
 repeat' (first | refine aoQ rfl rfl rfl (fun hg => by exact std0) (by exact rfl) ?_ | refine sqW ?_ | refine rgK (fun K' hK => ?_) | (refine aoN (hK _ _ ?_); clear hK K') | refine rtW ?_)
 exact ⟨.inr rfl, Ent.b rfl⟩
theorem nc1_spec (s : Score) (v : Int) : PCall Tryz.prog 104 [.agg (encS s), .iptr [.int v]] (.b (s.version == v)) := by
 refine PCall.body Tryz.func104 rfl rfl Tryz.ntmps104 rfl rfl ?_
 repeat' (first | refine aoQ rfl rfl rfl (fun hg => by exact std0) (by exact rfl) ?_ | refine sqW ?_ | refine rgK (fun K' hK => ?_) | (refine aoN (hK _ _ ?_); clear hK K') | refine aoE (bxW rfl rfl rfl rfl rfl tI rfl rfl ?_) | refine rtW ?_)
 exact ⟨.inr rfl, Ent.b rfl⟩
theorem fr1_spec (s : Score) (v : Int) : PCall Tryz.prog 135 [.agg (encS s), .iptr [.int v]] (.b (s.version == v)) := by
 refine PCall.body Tryz.func135 rfl rfl Tryz.ntmps135 rfl rfl ?_
 repeat' (first | refine aoQ rfl rfl rfl (fun hg => by exact std0) (by exact rfl) ?_ | refine sqW ?_ | refine rgK (fun K' hK => ?_) | (refine aoN (hK _ _ ?_); clear hK K') | refine aoE (bxW rfl rfl rfl rfl rfl tI rfl rfl ?_) | refine rtW ?_)
 exact ⟨.inr rfl, Ent.b rfl⟩
set_option maxHeartbeats 8000000 in
set_option maxRecDepth 20000 in
theorem idxS_spec (g : Nat) (l : List Score) (hl : l.length ≤ 9223372036854775807) (v : Int) (hg0 : ∀ s, PCall Tryz.prog g [.agg (encS s), .iptr [.int v]] (.b (s.version == v))) :
 PCall Tryz.prog 134 [.sl 4 (l.map encS) .no, .fn (.func g) [] [.iptr [.int v]]] (.int (findV l v)) := by
 refine PCall.body Tryz.func134 rfl rfl Tryz.ntmps134 rfl rfl ?_
 repeat' (first | refine aoQ rfl rfl rfl (fun hg => by first | exact std0 | exact std1) (by exact rfl) ?_ | refine sqW ?_ | refine rgK (fun K' hK => ?_) | (refine aoN (hK _ _ ?_); clear hK K') | refine blK ?_)
 refine lpW (ι := Nat) (fun k => [(0, .sl 4 (l.map encS) .no), (1, .fn (.func g) [] [.iptr [.int v]]), (7, .int l.length), (8, .int k)]) (fun _ => []) (fun k => k ≤ l.length ∧ ∀ j, j < k → ((l.getD j default).version == v) = false) (fun k => l.length - k) 0 ⟨nZl _, fun j h => absurd h (by omega)⟩ ⟨rfl, rfl, rfl, rfl, tI⟩ rfl ?_
 rintro k ⟨hk, hall⟩
 by_cases hlt : k < l.length
 · obtain ⟨s, hs⟩ : ∃ s, l.getD k default = s := ⟨_, rfl⟩
   have hv := hg0 s
   repeat' (first | refine aoQ rfl rfl rfl (fun hg => by first | exact iX encS l (((k) : Nat) : Int) hs (hb := by omega) | exact std0 | exact pcW (hv) rfl rfl nd rfl nds) (by exact rfl) ?_ | refine sqW ?_ | refine rgK (fun K' hK => ?_) | (refine aoN (hK _ _ ?_); clear hK K') | refine cdN rfl tI (fun hc => ?_) (fun hc => ?_) | refine blK ?_ | refine exW ?_ | refine skW ?_ | refine rtW ?_)
   all_goals (first | exact dd | skip)
   · exact ⟨.inr rfl, Ent.int (Eq.symm (findI_at hlt (by rw [hs]; exact hc) hall))⟩
   · exact ⟨k + 1, ⟨hlt, fun j hj => lt_succ_cases hall (by rw [hs]; exact hc) hj⟩, by omega, ⟨rfl, rfl, rfl, rfl, tI⟩, rfl⟩
 · repeat' (first | refine aoQ rfl rfl rfl (fun hg => by first | exact std0 | exact std1) (by exact rfl) ?_ | refine sqW ?_ | refine rgK (fun K' hK => ?_) | (refine aoN (hK _ _ ?_); clear hK K') | refine cdN rfl tI (fun hc => ?_) (fun hc => ?_) | refine blK ?_ | refine exW ?_ | refine skW ?_ | refine rtW ?_)
   all_goals (first | exact dd | skip)
   exact ⟨.inr rfl, Ent.int (Eq.symm (findI_no fun j hj => hall j (by omega)))⟩
def gotS (l : List Score) (v : Int) : List AV := if findV l v < 0 then [.int 0, .nils, .nils, .nils] else encS (atS l (findV l v).toNat)
theorem findV_lt {l : List Score} {v : Int} (h : ¬ findV l v < 0) : ∃ k : Nat, findV l v = k ∧ k < l.length ∧ (atS l k).version = v := by
 obtain ⟨k, h1, h2, h3, _⟩ := findI_lt (p := fun s : Score => s.version == v) (l := l) (by unfold findV at h; omega)
 exact ⟨k, h1, h2, beq_iff_eq.1 h3⟩
set_option maxHeartbeats 8000000 in
set_option maxRecDepth 20000 in
theorem findS_spec (g : Nat) (l : List Score) (hl : l.length ≤ 9223372036854775807) (v : Int) (hg0 : ∀ s, PCall Tryz.prog g [.agg (encS s), .iptr [.int v]] (.b (s.version == v))) :
 PCall Tryz.prog 103 [.sl 4 (l.map encS) .no, .fn (.func g) [] [.iptr [.int v]]] (.tup [.agg (gotS l v), .b (!decide (findV l v < 0))]) := by
 have h1 := idxS_spec g l hl v hg0
 refine PCall.bodyS tabOk Tryz.func103 rfl rfl Tryz.ntmps103 rfl ?_
 by_cases hf : findV l v < 0
 · have e : gotS l v = [.int 0, .nils, .nils, .nils] := if_pos hf
   rw [e, decide_eq_true hf]
   repeat' (first | refine aoQ rfl rfl rfl (fun hg => by first | exact std0 | exact pcW (h1) rfl rfl nd rfl nds | exact std1) (by exact rfl) ?_ | refine sqW ?_ | refine rgK (fun K' hK => ?_) | (refine aoN (hK _ _ ?_); clear hK K') | refine aoE (stW tabOk rfl rfl rfl tI rfl rfl tI rfl rfl rfl rfl rfl rfl rfl ?_) | refine aoE (alW tabOk rfl rfl rfl rfl rfl rfl ?_) | refine cdN rfl tI (fun hc => ?_) (fun hc => ?_) | refine skW ?_ | refine rtW ?_)
   all_goals (first | exact dd | skip)
   exact ⟨.inr rfl, _, rfl, Ent.of rfl⟩
 · have e : gotS l v = encS (atS l (findV l v).toNat) := if_neg hf
   rw [e, decide_eq_false hf]
   obtain ⟨k, hk, hlt, _⟩ := findV_lt hf
   rw [hk] at h1 ⊢
   rw [zA2]
   obtain ⟨s, hs⟩ : ∃ s, atS l k = s := ⟨_, rfl⟩
   rw [hs]
   repeat' (first | refine aoQ rfl rfl rfl (fun hg => by first | exact iX encS l (((k) : Nat) : Int) hs (hb := by omega) | exact std0 | exact pcW (h1) rfl rfl nd rfl nds) (by exact rfl) ?_ | refine sqW ?_ | refine rgK (fun K' hK => ?_) | (refine aoN (hK _ _ ?_); clear hK K') | refine aoE (stW tabOk rfl rfl rfl tI rfl rfl tI rfl rfl rfl rfl rfl rfl rfl ?_) | refine aoE (alW tabOk rfl rfl rfl rfl rfl rfl ?_) | refine cdN rfl tI (fun hc => ?_) (fun hc => ?_) | refine skW ?_ | refine rtW ?_)
   all_goals (first | exact dd | skip)
   exact ⟨.inr rfl, _, rfl, Ent.of rfl⟩
set_option maxHeartbeats 8000000 in
set_option maxRecDepth 20000 in
theorem areVersions_spec (l : List Score) (hl : l.length ≤ 9223372036854775807) (hsm : ∀ s ∈ l, s.Small) : PCall Tryz.prog 70 [.sl 4 (l.map encS) .no] (.b (versOk l)) := by
 refine PCall.body Tryz.func70 rfl rfl Tryz.ntmps70 rfl rfl ?_
 repeat' (first | refine aoQ rfl rfl rfl (fun hg => by first | exact std0 | exact std1) (by exact rfl) ?_ | refine sqW ?_ | refine rgK (fun K' hK => ?_) | (refine aoN (hK _ _ ?_); clear hK K') | refine blK ?_)
 refine lpD (ι := Nat) (fun k => [(0, .sl 4 (l.map encS) .no), (5, .sl 4 (l.map encS) .no), (6, .int l.length), (7, .int k)]) (fun _ => []) (fun k => k ≤ l.length ∧ ∀ j, j < k → stepV l j = true) (fun k => l.length - k) 0 (fun _ => rfl) 0 ⟨nZl _, fun j h => absurd h (by omega)⟩ ⟨rfl, rfl, rfl, rfl, tI⟩ rfl (fun _ _ => rfl) (fun _ _ => rfl) ?_
 rintro k ⟨hk, hall⟩
 by_cases hlt : k < l.length
 · obtain ⟨s, hs⟩ : ∃ s, l.getD k default = s := ⟨_, rfl⟩
   have hv := svalid_spec s (hsm s (by rw [← hs]; exact getD_mem hlt))
   have hst : stepV l k = (scoreOk s && (k == 0 || decide ((atS l (k - 1)).version < s.version))) := by unfold stepV atS; rw [hs]
   cases ho : scoreOk s with
   | false =>
     rw [ho] at hv hst
     repeat' (first | refine aoQ rfl rfl rfl (fun hg => by first | exact iX encS l (((k) : Nat) : Int) hs (hb := by omega) | exact std0 | exact std1) (by exact rfl) ?_ | refine sqW ?_ | refine rgK (fun K' hK => ?_) | (refine aoN (hK _ _ ?_); clear hK K') | refine aoE (stW tabOk rfl rfl rfl tI rfl rfl tI rfl rfl rfl rfl rfl rfl rfl ?_) | refine aoE (alW tabOk rfl rfl rfl rfl rfl rfl ?_) | refine cdN rfl tI (fun hc => ?_) (fun hc => ?_) | refine blK ?_ | refine exW ?_ | refine skW ?_ | refine rtW ?_ | refine dK2 (by decide +kernel) (by kernel_rfl) (by decide +kernel) rfl (fun K' hK => ?_) | (refine aqN (hK _ ?_); clear hK K') | refine aqQ rfl rfl (fun hg => by first | exact std0 | exact pcW (hv) rfl rfl nd rfl nds | exact (Bool.noConfusion (show false = true from hg) : PRun _ _ _ _ (.b false)) | fail) (by exact rfl) ?_)
     all_goals (first | exact dd | skip)
     exact ⟨.inr rfl, Ent.b (Eq.symm (vers_no hlt hst))⟩
   | true =>
     rw [ho] at hv hst
     cases k with
     | zero =>
       repeat' (first | refine aoQ rfl rfl rfl (fun hg => by first | exact iX encS l (((0) : Nat) : Int) hs (hb := by omega) | exact std0 | exact std1) (by exact rfl) ?_ | refine sqW ?_ | refine rgK (fun K' hK => ?_) | (refine aoN (hK _ _ ?_); clear hK K') | refine aoE (stW tabOk rfl rfl rfl tI rfl rfl tI rfl rfl rfl rfl rfl rfl rfl ?_) | refine aoE (alW tabOk rfl rfl rfl rfl rfl rfl ?_) | refine cdN rfl tI (fun hc => ?_) (fun hc => ?_) | refine blK ?_ | refine exW ?_ | refine skW ?_ | refine rtW ?_ | refine dK2 (by decide +kernel) (by kernel_rfl) (by decide +kernel) rfl (fun K' hK => ?_) | (refine aqN (hK _ ?_); clear hK K') | refine aqQ rfl rfl (fun hg => by first | exact std0 | exact pcW (hv) rfl rfl nd rfl nds | exact (Bool.noConfusion (show false = true from hg) : PRun _ _ _ _ (.b false)) | fail) (by exact rfl) ?_)
       all_goals (first | exact dd | skip)
       exact ⟨0 + 1, ⟨hlt, fun j hj => by obtain rfl : j = 0 := (by omega); exact hst⟩, by show l.length - (0 + 1) < l.length - 0; omega, ⟨rfl, rfl, rfl, rfl, tI⟩, rfl⟩
     | succ k =>
       obtain ⟨r, hr⟩ : ∃ r, l.getD k default = r := ⟨_, rfl⟩
       have hst2 : stepV l (k + 1) = decide (r.version < s.version) := by rw [hst, ← hr]; rfl
       by_cases hle : s.version ≤ r.version
       · repeat' (first | refine aoQ rfl rfl rfl (fun hg => by first | exact iX encS l (((k + 1) : Nat) : Int) hs (hb := by omega) | exact std0 | exact std1) (by exact rfl) ?_ | refine sqW ?_ | refine rgK (fun K' hK => ?_) | (refine aoN (hK _ _ ?_); clear hK K') | refine aoE (stW tabOk rfl rfl rfl tI rfl rfl tI rfl rfl rfl rfl rfl rfl rfl ?_) | refine aoE (alW tabOk rfl rfl rfl rfl rfl rfl ?_) | refine cdN rfl tI (fun hc => ?_) (fun hc => ?_) | refine blK ?_ | refine exW ?_ | refine skW ?_ | refine rtW ?_ | refine dK2 (by decide +kernel) (by kernel_rfl) (by decide +kernel) rfl (fun K' hK => ?_) | (refine aqN (hK _ ?_); clear hK K') | refine aqQ rfl rfl (fun hg => by first | exact PRun.eq (PRun.binW rfl rfl nd rfl nd rfl) (show AV.b (decide (s.version ≤ r.version)) = AV.b true from congrArg AV.b (decide_eq_true hle)) | exact PRun.eq (v := .int ((((k + 1 : Nat) : Int)) - 1)) (PRun.step tabOk rfl sd) (congrArg AV.int (show (((k + 1 : Nat) : Int) - 1) = ((k : Nat) : Int) by omega)) | exact iX encS l (((k) : Nat) : Int) hr (hb := by omega) | exact std0 | exact pcW (hv) rfl rfl nd rfl nds) (by exact rfl) ?_)
         all_goals (first | exact dd | skip)
         exact ⟨.inr rfl, Ent.b (Eq.symm (vers_no hlt (by rw [hst2]; exact decide_eq_false (by omega))))⟩
       · repeat' (first | refine aoQ rfl rfl rfl (fun hg => by first | exact iX encS l (((k + 1) : Nat) : Int) hs (hb := by omega) | exact std0 | exact std1) (by exact rfl) ?_ | refine sqW ?_ | refine rgK (fun K' hK => ?_) | (refine aoN (hK _ _ ?_); clear hK K') | refine aoE (stW tabOk rfl rfl rfl tI rfl rfl tI rfl rfl rfl rfl rfl rfl rfl ?_) | refine aoE (alW tabOk rfl rfl rfl rfl rfl rfl ?_) | refine cdN rfl tI (fun hc => ?_) (fun hc => ?_) | refine blK ?_ | refine exW ?_ | refine skW ?_ | refine rtW ?_ | refine dK2 (by decide +kernel) (by kernel_rfl) (by decide +kernel) rfl (fun K' hK => ?_) | (refine aqN (hK _ ?_); clear hK K') | refine aqQ rfl rfl (fun hg => by first | exact PRun.eq (PRun.binW rfl rfl nd rfl nd rfl) (show AV.b (decide (s.version ≤ r.version)) = AV.b false from congrArg AV.b (decide_eq_false hle)) | exact PRun.eq (v := .int ((((k + 1 : Nat) : Int)) - 1)) (PRun.step tabOk rfl sd) (congrArg AV.int (show (((k + 1 : Nat) : Int) - 1) = ((k : Nat) : Int) by omega)) | exact iX encS l (((k) : Nat) : Int) hr (hb := by omega) | exact std0 | exact pcW (hv) rfl rfl nd rfl nds) (by exact rfl) ?_)
         all_goals (first | exact dd | skip)
         exact ⟨k + 1 + 1, ⟨hlt, fun j hj => by
          rcases nLg j (k + 1) with g | g
          · exact hall j g
          · obtain rfl : j = k + 1 := (by omega)
            rw [hst2]; exact decide_eq_true (by omega)⟩, by show l.length - (k + 1 + 1) < l.length - (k + 1); omega, ⟨rfl, rfl, rfl, rfl, tI⟩, rfl⟩
 · obtain rfl : k = l.length := by omega
   repeat' (first | refine aoQ rfl rfl rfl (fun hg => by first | exact std0 | exact std1) (by exact rfl) ?_ | refine sqW ?_ | refine rgK (fun K' hK => ?_) | (refine aoN (hK _ _ ?_); clear hK K') | refine aoE (stW tabOk rfl rfl rfl tI rfl rfl tI rfl rfl rfl rfl rfl rfl rfl ?_) | refine aoE (alW tabOk rfl rfl rfl rfl rfl rfl ?_) | refine cdN rfl tI (fun hc => ?_) (fun hc => ?_) | refine blK ?_ | refine exW ?_ | refine skW ?_ | refine rtW ?_ | refine dK2 (by decide +kernel) (by kernel_rfl) (by decide +kernel) rfl (fun K' hK => ?_) | refine aqQ rfl rfl (fun hg => by exact std0) (by exact rfl) ?_)
   all_goals (first | exact dd | skip)
   exact ⟨.inr rfl, Ent.b (Eq.symm (vers_yes hall))⟩
end Go.Proofs.YtekfpcgagoidcaaGreatDoor.Cy
namespace Go.Proofs.YtekfpcgagoidcaaGreatDoor.Al
open Go.Ab Go.Sort
attribute [local irreducible] AWP AOps EStep AQ PStep PRun PCall TCall VCall
def exP : Part := ⟨1, 0, 0, 0, 1, ⟨0, 0⟩, ⟨0, 0, 0⟩, ⟨0, 0, 9⟩⟩
def WS (v : Int) (B : List (List AV)) (nb : Nat) (N : List (List AV)) (nn : Nat) : Store := [.var [.int 0, .nils, .nils, .nils], .var [.int v, .sl 4 B (.own 2), .sl 13 [encP exP] .fresh, .sl 12 N (.own 3)], .own 4 nb, .own 12 nn]
end Go.Proofs.YtekfpcgagoidcaaGreatDoor.Al
namespace Go.Proofs.YtekfpcgagoidcaaGreatDoor.Al
open Go.Ab Go.Sort
abbrev KL := List (KeyP × Int)
end Go.Proofs.YtekfpcgagoidcaaGreatDoor.Al
namespace Go.Ab
end Go.Ab
namespace Go.Proofs.YtekfpcgagoidcaaGreatDoor.Al
open Go.Ab Go.Sort
attribute [local irreducible] AWP AOps EStep AQ PStep PRun PCall TCall VCall
def Bnd (t : List (List Int)) (i n : Nat) : Prop := ∀ j, j < n → 0 ≤ get2 t i j ∧ get2 t i j ≤ 1000
def Rows (m : Nat) (t : List (List Int)) (i : Nat) : Prop := ∀ j, j < i → (t.getD j []).length = m + 1 ∧ Bnd t j (m + 1)
end Go.Proofs.YtekfpcgagoidcaaGreatDoor.Al
namespace Go.Ab
section
variable {P : Program} {n : Nat} {ops : Array Oper} {md : Region.Mode} {S : Nat → Store} {eff : Oper → Bool} {lo hi rank : Nat → Nat}
inductive Aft (md : Region.Mode) (ops : Array Oper) (i : Nat) : Nat → Prop
 | one {k : Nat} {o : Oper} (h : ops[k]? = some o) (he : edgeB md o i = true) : Aft md ops i k
 | step {k m : Nat} {o : Oper} (hm : Aft md ops i m) (h : ops[k]? = some o) (he : edgeB md o m = true) : Aft md ops i k
end
end Go.Ab
namespace Go.Proofs.YtekfpcgagoidcaaGreatDoor.Al
open Go.Ab Go.Sort
attribute [local irreducible] AWP AOps EStep AQ PStep PRun PCall TCall VCall
def revP (l : PL) (k : Nat) : PL := (List.range l.length).map fun i => if i < k ∨ l.length ≤ i + k then l.getD (l.length - 1 - i) default else l.getD i default
theorem revP_len (l : PL) (k : Nat) : (revP l k).length = l.length := by simp [revP]
theorem revP_at (l : PL) (k : Nat) {i : Nat} (h : i < l.length) : (revP l k).getD i default = if i < k ∨ l.length ≤ i + k then l.getD (l.length - 1 - i) default else l.getD i default := by
 unfold revP; rw [zBs, zAb, zCw h]; rfl
theorem ext_getD {l m : PL} (h : l.length = m.length) (hg : ∀ i, i < l.length → l.getD i default = m.getD i default) : l = m := by
 refine List.ext_getElem h fun i h1 h2 => ?_
 have := hg i h1
 rwa [getD_lt h1, getD_lt h2] at this
theorem revP_zero (l : PL) : revP l 0 = l := by
 refine ext_getD (revP_len l 0) fun i h => ?_
 rw [revP_len] at h
 rw [revP_at l 0 h, if_neg (by omega)]
theorem revP_end {l : PL} {k : Nat} (h : l.length ≤ 2 * k + 1) : revP l k = l.reverse := by
 refine ext_getD (by rw [revP_len, zCv]) fun i hi => ?_
 rw [revP_len] at hi
 rw [revP_at l k hi]
 have e : l.reverse.getD i default = l.getD (l.length - 1 - i) default := by
  rw [getD_lt (by rw [zCv]; exact hi), List.getElem_reverse, getD_lt (by omega)]
 rw [e]
 split
 · rfl
 · rename_i g
   have : l.length - 1 - i = i := by omega
   rw [this]
theorem set_getD {l : PL} {j : Nat} (v : Int × Int) {i : Nat} (h : i < l.length) : (l.set j v).getD i default = if j = i then v else l.getD i default := by
 rw [zBs, List.getElem?_set]
 split
 · rename_i e; subst e; rw [if_pos h]; rfl
 · rw [zBs]
theorem revP_set {l : PL} {k : Nat} (h : k + k + 1 < l.length) : ((revP l k).set k (l.getD (l.length - 1 - k) default)).set (l.length - 1 - k) (l.getD k default) = revP l (k + 1) := by
 refine ext_getD (by rw [zCr, zCr, revP_len, revP_len]) fun i hi => ?_
 rw [zCr, zCr, revP_len] at hi
 rw [set_getD _ (by rw [zCr, revP_len]; exact hi), set_getD _ (by rw [revP_len]; exact hi), revP_at l k hi, revP_at l (k + 1) hi]
 by_cases h1 : l.length - 1 - k = i
 · rw [if_pos h1, if_pos (by omega), ← h1, show l.length - 1 - (l.length - 1 - k) = k by omega]
 · rw [if_neg h1]
   by_cases h2 : k = i
   · subst h2; rw [if_pos rfl, if_pos (by omega)]
   · rw [if_neg h2]
     by_cases h3 : i < k ∨ l.length ≤ i + k
     · rw [if_pos h3, if_pos (by omega)]
     · rw [if_neg h3, if_neg (by omega)]
def RS (p : Nat → AObj) (ver : Nat) (l : PL) : Store := [p 0, p 1, p 2, p 3, p 4, p 5, p 6, p 7, p 8, p 9, p 10, p 11, p 12, .arr 2 ver (l.map encPr)]
theorem okArr2 (m ver : Nat) (l : PL) : okObj m (.arr 2 ver (l.map encPr)) = true := by
 show (l.map encPr).all _ = true
 rw [zA7]; intro x hx
 obtain ⟨p, _, rfl⟩ := zAu.1 hx
 rfl
theorem RS_ok {p : Nat → AObj} (hp : ∀ i, okObj 14 (p i) = true) (ver : Nat) (l : PL) : (RS p ver l).all (okObj 14) = true := by
 simp only [RS, zBg, zBl, hp, okArr2]; rfl
theorem encPr_set (l : PL) (i : Nat) (v : Int × Int) : (l.map encPr).set i (encPr v) = (l.set i v).map encPr := by rw [List.map_set]
set_option maxHeartbeats 8000000 in
set_option maxRecDepth 20000 in
theorem reverse_spec {p : Nat → AObj} (hp : ∀ i, okObj 14 (p i) = true) (ver : Nat) (l : PL) (hl : l.length ≤ 1000000) :
 TCall Tryz.prog 50 [.sla 13 2 0 l.length ver] (RS p ver l) (fun r s => r = .tup [] ∧ s = RS p ver l.reverse) := by
 refine TCall.body Tryz.func50 rfl rfl Tryz.ntmps50 rfl rfl ?_
 repeat' (first | refine aoQ rfl rfl rfl (fun hg => by first | exact std0 | exact PRun.lenA tabOk rfl rfl nd rfl) (by exact rfl) ?_ | refine sqW ?_ | refine rgK (fun K' hK => ?_) | (refine aoN (hK _ _ ?_); clear hK K') | refine blK ?_)
 refine lpD (ι := Nat) (fun q => [(0, .sla 13 2 0 l.length ver), (2, .int q), (3, .int ((l.length : Int) - 1 - q))]) (fun q => RS p ver (revP l q)) (fun q => 2 * q ≤ l.length + 1) (fun q => l.length - q) 14 (fun _ => rfl) 0 (nZl _) ⟨rfl, rfl, ?_, tI⟩ (by show _ = RS p ver (revP l 0); rw [revP_zero]) (fun _ _ => rfl) (fun q _ => RS_ok hp ver _) ?_
 · show AV.int _ = AV.int _
   exact congrArg AV.int (by omega)
 intro q hk
 by_cases hlt : 2 * q + 1 < l.length
 · have hst := revP_set (l := l) (k := q) (by omega)
   have hA := revP_len l q
   obtain ⟨u, hu⟩ : ∃ u, l.getD q default = u := ⟨_, rfl⟩
   obtain ⟨v, hv⟩ : ∃ v, l.getD (l.length - 1 - q) default = v := ⟨_, rfl⟩
   have e1 : (revP l q).getD q default = u := by rw [revP_at l q (by omega), if_neg (by omega)]; exact hu
   have e2 : (revP l q).getD (l.length - 1 - q) default = v := by rw [revP_at l q (by omega), if_neg (by omega)]; exact hv
   rw [hu, hv] at hst
   generalize hr : revP l q = A at *
   repeat' (first | refine aoQ rfl rfl rfl (fun hg => by exact std0) (by exact rfl) ?_ | refine sqW ?_ | refine rgK (fun K' hK => ?_) | (refine aoN (hK _ _ ?_); clear hK K') | refine cdN rfl tI (fun hc => ?_) (fun hc => ?_) | refine blK ?_ | refine exW ?_ | refine skW ?_)
   all_goals (first | exact dd | skip)
   refine AWP.drawYM effOp (fun j => match j with | 0 => RS p ver A | 1 => RS p ver (A.set q v) | _ => RS p ver ((A.set q v).set (l.length - 1 - q) u)) rfl (by kernel_rfl) (by decide +kernel) rfl (by decide +kernel) (fun K' hK => ?_)
   repeat' (first
    | refine yqQ (a := 0) (b := 0) rfl (by decide +kernel) (by decide +kernel) rfl rfl rfl (fun k h1 h2 hg => by (have hk : k = 0 := (by omega)); (rcases hk with rfl) <;> (first | exact PRun.eq (v := .agg (encPr (A.getD q default))) (PRun.loadEM (f := encPr) (xs := A) (l := 13) (i := q) tabOk rfl rfl nd rfl (by omega) rfl rfl) (congrArg (fun x => AV.agg (encPr x)) e1) | exact PRun.eq (v := .agg (encPr (A.getD (l.length - 1 - q) default))) (PRun.loadEM (f := encPr) (xs := A) (l := 13) (i := l.length - 1 - q) tabOk rfl rfl nd rfl (by omega) rfl rfl) (congrArg (fun x => AV.agg (encPr x)) e2) | exact PRun.eq (v := .eptr 13 2 ((l.length : Int) - 1 - q).toNat 0 ver) (PRun.indexA0 (i := (l.length : Int) - 1 - q) tabOk rfl rfl nd rfl nd rfl (zAd _) rfl (by omega)) (congrArg (fun n => AV.eptr 13 2 n 0 ver) (show ((l.length : Int) - 1 - q).toNat = l.length - 1 - q by omega)) | exact PRun.eq (v := .eptr 13 2 ((q : Nat) : Int).toNat 0 ver) (PRun.indexA0 (i := ((q : Nat) : Int)) tabOk rfl rfl nd rfl nd rfl (zAd _) rfl (by omega)) (show AV.eptr 13 2 ((q : Nat) : Int).toNat 0 ver = AV.eptr 13 2 q 0 ver from rfl) | exact std0 | exact std1)) (by exact rfl) ?_
    | refine yqQ (a := 0) (b := 1) rfl (by decide +kernel) (by decide +kernel) rfl rfl rfl (fun k h1 h2 hg => by (have hk : k = 0 ∨ k = 1 := (by omega)); (rcases hk with rfl | rfl) <;> (first | exact PRun.eq (v := .agg (encPr (A.getD q default))) (PRun.loadEM (f := encPr) (xs := A) (l := 13) (i := q) tabOk rfl rfl nd rfl (by omega) rfl rfl) (congrArg (fun x => AV.agg (encPr x)) e1) | exact PRun.eq (v := .agg (encPr (A.getD (l.length - 1 - q) default))) (PRun.loadEM (f := encPr) (xs := A) (l := 13) (i := l.length - 1 - q) tabOk rfl rfl nd rfl (by omega) rfl rfl) (congrArg (fun x => AV.agg (encPr x)) e2) | exact PRun.eq (v := .eptr 13 2 ((l.length : Int) - 1 - q).toNat 0 ver) (PRun.indexA0 (i := (l.length : Int) - 1 - q) tabOk rfl rfl nd rfl nd rfl (zAd _) rfl (by omega)) (congrArg (fun n => AV.eptr 13 2 n 0 ver) (show ((l.length : Int) - 1 - q).toNat = l.length - 1 - q by omega)) | exact PRun.eq (v := .eptr 13 2 ((q : Nat) : Int).toNat 0 ver) (PRun.indexA0 (i := ((q : Nat) : Int)) tabOk rfl rfl nd rfl nd rfl (zAd _) rfl (by omega)) (show AV.eptr 13 2 ((q : Nat) : Int).toNat 0 ver = AV.eptr 13 2 q 0 ver from rfl) | exact std0 | exact std1)) (by exact rfl) ?_
    | refine yqQ (a := 1) (b := 1) rfl (by decide +kernel) (by decide +kernel) rfl rfl rfl (fun k h1 h2 hg => by (have hk : k = 1 := (by omega)); (rcases hk with rfl) <;> (first | exact PRun.eq (v := .agg (encPr (A.getD q default))) (PRun.loadEM (f := encPr) (xs := A) (l := 13) (i := q) tabOk rfl rfl nd rfl (by omega) rfl rfl) (congrArg (fun x => AV.agg (encPr x)) e1) | exact PRun.eq (v := .agg (encPr (A.getD (l.length - 1 - q) default))) (PRun.loadEM (f := encPr) (xs := A) (l := 13) (i := l.length - 1 - q) tabOk rfl rfl nd rfl (by omega) rfl rfl) (congrArg (fun x => AV.agg (encPr x)) e2) | exact PRun.eq (v := .eptr 13 2 ((l.length : Int) - 1 - q).toNat 0 ver) (PRun.indexA0 (i := (l.length : Int) - 1 - q) tabOk rfl rfl nd rfl nd rfl (zAd _) rfl (by omega)) (congrArg (fun n => AV.eptr 13 2 n 0 ver) (show ((l.length : Int) - 1 - q).toNat = l.length - 1 - q by omega)) | exact PRun.eq (v := .eptr 13 2 ((q : Nat) : Int).toNat 0 ver) (PRun.indexA0 (i := ((q : Nat) : Int)) tabOk rfl rfl nd rfl nd rfl (zAd _) rfl (by omega)) (show AV.eptr 13 2 ((q : Nat) : Int).toNat 0 ver = AV.eptr 13 2 q 0 ver from rfl) | exact std0 | exact std1)) (by exact rfl) ?_
    | refine yqQ (a := 0) (b := 2) rfl (by decide +kernel) (by decide +kernel) rfl rfl rfl (fun k h1 h2 hg => by (have hk : k = 0 ∨ k = 1 ∨ k = 2 := (by omega)); (rcases hk with rfl | rfl | rfl) <;> (first | exact PRun.eq (v := .agg (encPr (A.getD q default))) (PRun.loadEM (f := encPr) (xs := A) (l := 13) (i := q) tabOk rfl rfl nd rfl (by omega) rfl rfl) (congrArg (fun x => AV.agg (encPr x)) e1) | exact PRun.eq (v := .agg (encPr (A.getD (l.length - 1 - q) default))) (PRun.loadEM (f := encPr) (xs := A) (l := 13) (i := l.length - 1 - q) tabOk rfl rfl nd rfl (by omega) rfl rfl) (congrArg (fun x => AV.agg (encPr x)) e2) | exact PRun.eq (v := .eptr 13 2 ((l.length : Int) - 1 - q).toNat 0 ver) (PRun.indexA0 (i := (l.length : Int) - 1 - q) tabOk rfl rfl nd rfl nd rfl (zAd _) rfl (by omega)) (congrArg (fun n => AV.eptr 13 2 n 0 ver) (show ((l.length : Int) - 1 - q).toNat = l.length - 1 - q by omega)) | exact PRun.eq (v := .eptr 13 2 ((q : Nat) : Int).toNat 0 ver) (PRun.indexA0 (i := ((q : Nat) : Int)) tabOk rfl rfl nd rfl nd rfl (zAd _) rfl (by omega)) (show AV.eptr 13 2 ((q : Nat) : Int).toNat 0 ver = AV.eptr 13 2 q 0 ver from rfl) | exact std0 | exact std1)) (by exact rfl) ?_
    | refine yqQ (a := 1) (b := 2) rfl (by decide +kernel) (by decide +kernel) rfl rfl rfl (fun k h1 h2 hg => by (have hk : k = 1 ∨ k = 2 := (by omega)); (rcases hk with rfl | rfl) <;> (first | exact PRun.eq (v := .agg (encPr (A.getD q default))) (PRun.loadEM (f := encPr) (xs := A) (l := 13) (i := q) tabOk rfl rfl nd rfl (by omega) rfl rfl) (congrArg (fun x => AV.agg (encPr x)) e1) | exact PRun.eq (v := .agg (encPr (A.getD (l.length - 1 - q) default))) (PRun.loadEM (f := encPr) (xs := A) (l := 13) (i := l.length - 1 - q) tabOk rfl rfl nd rfl (by omega) rfl rfl) (congrArg (fun x => AV.agg (encPr x)) e2) | exact PRun.eq (v := .eptr 13 2 ((l.length : Int) - 1 - q).toNat 0 ver) (PRun.indexA0 (i := (l.length : Int) - 1 - q) tabOk rfl rfl nd rfl nd rfl (zAd _) rfl (by omega)) (congrArg (fun n => AV.eptr 13 2 n 0 ver) (show ((l.length : Int) - 1 - q).toNat = l.length - 1 - q by omega)) | exact PRun.eq (v := .eptr 13 2 ((q : Nat) : Int).toNat 0 ver) (PRun.indexA0 (i := ((q : Nat) : Int)) tabOk rfl rfl nd rfl nd rfl (zAd _) rfl (by omega)) (show AV.eptr 13 2 ((q : Nat) : Int).toNat 0 ver = AV.eptr 13 2 q 0 ver from rfl) | exact std0 | exact std1)) (by exact rfl) ?_
    | refine yqQ (a := 2) (b := 2) rfl (by decide +kernel) (by decide +kernel) rfl rfl rfl (fun k h1 h2 hg => by (have hk : k = 2 := (by omega)); (rcases hk with rfl) <;> (first | exact PRun.eq (v := .agg (encPr (A.getD q default))) (PRun.loadEM (f := encPr) (xs := A) (l := 13) (i := q) tabOk rfl rfl nd rfl (by omega) rfl rfl) (congrArg (fun x => AV.agg (encPr x)) e1) | exact PRun.eq (v := .agg (encPr (A.getD (l.length - 1 - q) default))) (PRun.loadEM (f := encPr) (xs := A) (l := 13) (i := l.length - 1 - q) tabOk rfl rfl nd rfl (by omega) rfl rfl) (congrArg (fun x => AV.agg (encPr x)) e2) | exact PRun.eq (v := .eptr 13 2 ((l.length : Int) - 1 - q).toNat 0 ver) (PRun.indexA0 (i := (l.length : Int) - 1 - q) tabOk rfl rfl nd rfl nd rfl (zAd _) rfl (by omega)) (congrArg (fun n => AV.eptr 13 2 n 0 ver) (show ((l.length : Int) - 1 - q).toNat = l.length - 1 - q by omega)) | exact PRun.eq (v := .eptr 13 2 ((q : Nat) : Int).toNat 0 ver) (PRun.indexA0 (i := ((q : Nat) : Int)) tabOk rfl rfl nd rfl nd rfl (zAd _) rfl (by omega)) (show AV.eptr 13 2 ((q : Nat) : Int).toNat 0 ver = AV.eptr 13 2 q 0 ver from rfl) | exact std0 | exact std1)) (by exact rfl) ?_)
   refine YQ.e (v := .any) (d := none) rfl rfl rfl ?_ ?_
   · intro env' he
     refine EStep.storeE (l := 13) (i := q) (us := encPr v) tabOk rfl rfl ((rdv_congr (he 26 (by decide +kernel))).trans rfl) (by rw [rdn_congr (he 26 (by decide +kernel))]; first | exact tI | exact rfl) rfl (by rw [lLm]; omega) ((rdv_congr (he 21 (by decide +kernel))).trans rfl) (by rw [rdn_congr (he 21 (by decide +kernel))]; first | exact tI | exact rfl) rfl rfl rfl rfl rfl rfl ⟨rfl, ?_⟩
     rw [encPr_set]; rfl
   repeat' (first
    | refine yqQ (a := 0) (b := 0) rfl (by decide +kernel) (by decide +kernel) rfl rfl rfl (fun k h1 h2 hg => by (have hk : k = 0 := (by omega)); (rcases hk with rfl) <;> (first | exact PRun.eq (v := .eptr 13 2 ((l.length : Int) - 1 - q).toNat 0 ver) (PRun.indexA0 (i := (l.length : Int) - 1 - q) tabOk rfl rfl nd rfl nd rfl (zAd _) rfl (by omega)) (congrArg (fun n => AV.eptr 13 2 n 0 ver) (show ((l.length : Int) - 1 - q).toNat = l.length - 1 - q by omega)) | exact std0 | exact std1)) (by exact rfl) ?_
    | refine yqQ (a := 0) (b := 1) rfl (by decide +kernel) (by decide +kernel) rfl rfl rfl (fun k h1 h2 hg => by (have hk : k = 0 ∨ k = 1 := (by omega)); (rcases hk with rfl | rfl) <;> (first | exact PRun.eq (v := .eptr 13 2 ((l.length : Int) - 1 - q).toNat 0 ver) (PRun.indexA0 (i := (l.length : Int) - 1 - q) tabOk rfl rfl nd rfl nd rfl (zAd _) rfl (by omega)) (congrArg (fun n => AV.eptr 13 2 n 0 ver) (show ((l.length : Int) - 1 - q).toNat = l.length - 1 - q by omega)) | exact std0 | exact std1)) (by exact rfl) ?_
    | refine yqQ (a := 1) (b := 1) rfl (by decide +kernel) (by decide +kernel) rfl rfl rfl (fun k h1 h2 hg => by (have hk : k = 1 := (by omega)); (rcases hk with rfl) <;> (first | exact PRun.eq (v := .eptr 13 2 ((l.length : Int) - 1 - q).toNat 0 ver) (PRun.indexA0 (i := (l.length : Int) - 1 - q) tabOk rfl rfl nd rfl nd rfl (zAd _) rfl (by omega)) (congrArg (fun n => AV.eptr 13 2 n 0 ver) (show ((l.length : Int) - 1 - q).toNat = l.length - 1 - q by omega)) | exact std0 | exact std1)) (by exact rfl) ?_
    | refine yqQ (a := 0) (b := 2) rfl (by decide +kernel) (by decide +kernel) rfl rfl rfl (fun k h1 h2 hg => by (have hk : k = 0 ∨ k = 1 ∨ k = 2 := (by omega)); (rcases hk with rfl | rfl | rfl) <;> (first | exact PRun.eq (v := .eptr 13 2 ((l.length : Int) - 1 - q).toNat 0 ver) (PRun.indexA0 (i := (l.length : Int) - 1 - q) tabOk rfl rfl nd rfl nd rfl (zAd _) rfl (by omega)) (congrArg (fun n => AV.eptr 13 2 n 0 ver) (show ((l.length : Int) - 1 - q).toNat = l.length - 1 - q by omega)) | exact std0 | exact std1)) (by exact rfl) ?_
    | refine yqQ (a := 1) (b := 2) rfl (by decide +kernel) (by decide +kernel) rfl rfl rfl (fun k h1 h2 hg => by (have hk : k = 1 ∨ k = 2 := (by omega)); (rcases hk with rfl | rfl) <;> (first | exact PRun.eq (v := .eptr 13 2 ((l.length : Int) - 1 - q).toNat 0 ver) (PRun.indexA0 (i := (l.length : Int) - 1 - q) tabOk rfl rfl nd rfl nd rfl (zAd _) rfl (by omega)) (congrArg (fun n => AV.eptr 13 2 n 0 ver) (show ((l.length : Int) - 1 - q).toNat = l.length - 1 - q by omega)) | exact std0 | exact std1)) (by exact rfl) ?_
    | refine yqQ (a := 2) (b := 2) rfl (by decide +kernel) (by decide +kernel) rfl rfl rfl (fun k h1 h2 hg => by (have hk : k = 2 := (by omega)); (rcases hk with rfl) <;> (first | exact PRun.eq (v := .eptr 13 2 ((l.length : Int) - 1 - q).toNat 0 ver) (PRun.indexA0 (i := (l.length : Int) - 1 - q) tabOk rfl rfl nd rfl nd rfl (zAd _) rfl (by omega)) (congrArg (fun n => AV.eptr 13 2 n 0 ver) (show ((l.length : Int) - 1 - q).toNat = l.length - 1 - q by omega)) | exact std0 | exact std1)) (by exact rfl) ?_)
   refine YQ.e (v := .any) (d := none) rfl rfl rfl ?_ ?_
   · intro env' he
     refine EStep.storeE (l := 13) (i := l.length - 1 - q) (us := encPr u) tabOk rfl rfl ((rdv_congr (he 27 (by decide +kernel))).trans rfl) (by rw [rdn_congr (he 27 (by decide +kernel))]; first | exact tI | exact rfl) rfl (by rw [lLm, zCr]; omega) ((rdv_congr (he 25 (by decide +kernel))).trans rfl) (by rw [rdn_congr (he 25 (by decide +kernel))]; first | exact tI | exact rfl) rfl rfl rfl rfl rfl rfl ⟨rfl, ?_⟩
     rw [encPr_set]; rfl
   repeat' (first
    | refine yqQ (a := 0) (b := 0) rfl (by decide +kernel) (by decide +kernel) rfl rfl rfl (fun k h1 h2 hg => by (have hk : k = 0 := (by omega)); (rcases hk with rfl) <;> (first | exact std0 | exact std1)) (by exact rfl) ?_
    | refine yqQ (a := 0) (b := 1) rfl (by decide +kernel) (by decide +kernel) rfl rfl rfl (fun k h1 h2 hg => by (have hk : k = 0 ∨ k = 1 := (by omega)); (rcases hk with rfl | rfl) <;> (first | exact std0 | exact std1)) (by exact rfl) ?_
    | refine yqQ (a := 1) (b := 1) rfl (by decide +kernel) (by decide +kernel) rfl rfl rfl (fun k h1 h2 hg => by (have hk : k = 1 := (by omega)); (rcases hk with rfl) <;> (first | exact std0 | exact std1)) (by exact rfl) ?_
    | refine yqQ (a := 0) (b := 2) rfl (by decide +kernel) (by decide +kernel) rfl rfl rfl (fun k h1 h2 hg => by (have hk : k = 0 ∨ k = 1 ∨ k = 2 := (by omega)); (rcases hk with rfl | rfl | rfl) <;> (first | exact std0 | exact std1)) (by exact rfl) ?_
    | refine yqQ (a := 1) (b := 2) rfl (by decide +kernel) (by decide +kernel) rfl rfl rfl (fun k h1 h2 hg => by (have hk : k = 1 ∨ k = 2 := (by omega)); (rcases hk with rfl | rfl) <;> (first | exact std0 | exact std1)) (by exact rfl) ?_
    | refine yqQ (a := 2) (b := 2) rfl (by decide +kernel) (by decide +kernel) rfl rfl rfl (fun k h1 h2 hg => by (have hk : k = 2 := (by omega)); (rcases hk with rfl) <;> (first | exact std0 | exact std1)) (by exact rfl) ?_)
   refine YQ.nil (hK _ _ ?_)
   clear hK K'
   show AWP _ _ _ _ _ (RS p ver ((A.set q v).set (l.length - 1 - q) u))
   rw [hst]
   repeat' (first | refine aoQ rfl rfl rfl (fun hg => by exact std0) (by exact rfl) ?_ | refine rgK (fun K' hK => ?_) | (refine aoN (hK _ _ ?_); clear hK K'))
   refine ⟨q + 1, by omega, by omega, ⟨rfl, rfl, ?_, tI⟩, rfl⟩
   exact congrArg AV.int (by omega)
 · repeat' (first | refine aoQ rfl rfl rfl (fun hg => by exact std0) (by exact rfl) ?_ | refine sqW ?_ | refine rgK (fun K' hK => ?_) | (refine aoN (hK _ _ ?_); clear hK K') | refine cdN rfl tI (fun hc => ?_) (fun hc => ?_) | refine blK ?_ | refine exW ?_ | refine skW ?_)
   all_goals (first | exact dd | skip)
   refine ⟨.inl rfl, .tup [], RS p ver l.reverse, ⟨rfl, rfl⟩, ?_, nLr _, RS_ok hp ver _, rfl, rfl⟩
   show RS p ver (revP l q) = _
   rw [revP_end (by omega)]
set_option maxHeartbeats 4000000 in
theorem reverse0_spec {p : Nat → AObj} (hp : ∀ i, okObj 14 (p i) = true) (ver : Nat) :
 TCall Tryz.prog 50 [.sl 2 [] (.own 13)] (RS p ver []) (fun r s => r = .tup [] ∧ s = RS p ver []) := by
 refine TCall.body Tryz.func50 rfl rfl Tryz.ntmps50 rfl rfl ?_
 repeat' (first | refine aoQ rfl rfl rfl (fun hg => by first | exact std0 | exact std1) (by exact rfl) ?_ | refine sqW ?_ | refine rgK (fun K' hK => ?_) | (refine aoN (hK _ _ ?_); clear hK K') | refine blK ?_)
 refine lpD (ι := Unit) (fun _ => [(2, .int 0), (3, .int (-1))]) (fun _ => RS p ver []) (fun _ => True) (fun _ => 0) 14 (fun _ => rfl) () tI ⟨rfl, rfl, tI⟩ rfl (fun _ _ => rfl) (fun _ _ => RS_ok hp ver _) ?_
 rintro ⟨⟩ _
 repeat' (first | refine aoQ rfl rfl rfl (fun hg => by exact std0) (by exact rfl) ?_ | refine sqW ?_ | refine rgK (fun K' hK => ?_) | (refine aoN (hK _ _ ?_); clear hK K') | refine cdN rfl tI (fun hc => ?_) (fun hc => ?_) | refine blK ?_ | refine exW ?_ | refine skW ?_)
 all_goals (first | exact dd | skip)
 exact ⟨.inl rfl, .tup [], RS p ver [], ⟨rfl, rfl⟩, rfl, nLr _, RS_ok hp ver _, rfl, rfl⟩
end Go.Proofs.YtekfpcgagoidcaaGreatDoor.Al
