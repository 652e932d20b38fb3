/- Contracts by content: bowing: searches in lists. No statement is proved here. -/
import Derived.Test.YtficfljjnbnhbaaGreatDoorP16
import Derived.Test.YtficfljjnbnhbaaGreatDoorP18
set_option linter.unusedVariables false
set_option linter.unusedSimpArgs false
namespace Go.Proofs.YtficfljjnbnhbaaGreatDoor.Bw
open Go.Ab Mk
attribute [local irreducible] AWP AOps EStep AQ PStep PRun PCall TCall VCall DStep TDies AWD DCall
abbrev eI (n : Int) : List AV := [.int n]
set_option maxHeartbeats 8000000 in
set_option maxRecDepth 20000 in
theorem idxI0_spec (g : Nat) (q : Int → Bool) (l : List Int) (hl : l.length ≤ 9223372036854775807) (hg0 : ∀ s ∈ l, PCall Tryz.prog g [.int s] (.b (q s))) :
 PCall Tryz.prog 80 [.sl 1 (l.map eI) .no, .fn (.func g) [] []] (.int (findI q l)) := by
 refine PCall.body Tryz.func80 rfl rfl Tryz.ntmps80 rfl rfl ?_
 repeat' (first | refine aoQ rfl rfl rfl (fun hg => by first | exact std0 | exact std1) (by exact rfl) ?_ | refine sqW ?_ | refine rgK (fun K' hK => ?_) | (refine aoN (hK _ _ ?_); clear hK K') | refine blK ?_)
 refine lpW (ι := Nat) (fun k => [(0, .sl 1 (l.map eI) .no), (1, .fn (.func g) [] []), (7, .int l.length), (8, .int k)]) (fun _ => []) (fun k => k ≤ l.length ∧ ∀ j, j < k → q (l.getD j default) = false) (fun k => l.length - k) 0 ⟨nZl _, fun j h => absurd h (by omega)⟩ ⟨rfl, rfl, rfl, rfl, tI⟩ rfl ?_
 rintro k ⟨hk, hall⟩
 by_cases hlt : k < l.length
 · obtain ⟨s, hs⟩ : ∃ s, l.getD k default = s := ⟨_, rfl⟩
   have hv := hg0 s (by rw [← hs]; exact getD_mem hlt)
   repeat' (first | refine aoQ rfl rfl rfl (fun hg => by first | exact iX eI l ((k : Nat) : Int) hs (hb := by omega) | exact std0 | exact pcW (hv) rfl rfl nd rfl nds) (by exact rfl) ?_ | refine sqW ?_ | refine rgK (fun K' hK => ?_) | (refine aoN (hK _ _ ?_); clear hK K') | refine cdN rfl tI (fun hc => ?_) (fun hc => ?_) | refine blK ?_ | refine exW ?_ | refine skW ?_ | refine rtW ?_)
   all_goals (first | exact dd | skip)
   · exact ⟨.inr rfl, Ent.int (Eq.symm (findI_at hlt (by rw [hs]; exact hc) hall))⟩
   · exact ⟨k + 1, ⟨hlt, fun j hj => lt_succ_cases hall (by rw [hs]; exact hc) hj⟩, by omega, ⟨rfl, rfl, rfl, rfl, tI⟩, rfl⟩
 · repeat' (first | refine aoQ rfl rfl rfl (fun hg => by first | exact std0 | exact std1) (by exact rfl) ?_ | refine sqW ?_ | refine rgK (fun K' hK => ?_) | (refine aoN (hK _ _ ?_); clear hK K') | refine cdN rfl tI (fun hc => ?_) (fun hc => ?_) | refine blK ?_ | refine exW ?_ | refine skW ?_ | refine rtW ?_)
   all_goals (first | exact dd | skip)
   exact ⟨.inr rfl, Ent.int (Eq.symm (findI_no fun j hj => hall j (by omega)))⟩
theorem hasI0_spec (g : Nat) (q : Int → Bool) (l : List Int) (hl : l.length ≤ 9223372036854775807) (hg0 : ∀ s ∈ l, PCall Tryz.prog g [.int s] (.b (q s))) :
 PCall Tryz.prog 36 [.sl 1 (l.map eI) .no, .fn (.func g) [] []] (.b (decide (findI q l ≥ 0))) := by
 have h1 := idxI0_spec g q l hl hg0
 refine PCall.body Tryz.func36 rfl rfl Tryz.ntmps36 rfl rfl ?_
 repeat' (first | refine aoQ rfl rfl rfl (fun hg => by first | exact std0 | exact pcW (h1) rfl rfl nd rfl nds) (by exact rfl) ?_ | refine sqW ?_ | refine rgK (fun K' hK => ?_) | (refine aoN (hK _ _ ?_); clear hK K') | refine rtW ?_)
 exact ⟨.inr rfl, Ent.b rfl⟩
set_option maxHeartbeats 8000000 in
set_option maxRecDepth 20000 in
theorem idxI1_spec (g : Nat) (c0 : List AV) (q : Int → Bool) (l : List Int) (hl : l.length ≤ 9223372036854775807) (hg0 : ∀ s ∈ l, PCall Tryz.prog g [.int s, .iptr c0] (.b (q s))) :
 PCall Tryz.prog 80 [.sl 1 (l.map eI) .no, .fn (.func g) [] [.iptr c0]] (.int (findI q l)) := by
 refine PCall.body Tryz.func80 rfl rfl Tryz.ntmps80 rfl rfl ?_
 repeat' (first | refine aoQ rfl rfl rfl (fun hg => by first | exact std0 | exact std1) (by exact rfl) ?_ | refine sqW ?_ | refine rgK (fun K' hK => ?_) | (refine aoN (hK _ _ ?_); clear hK K') | refine blK ?_)
 refine lpW (ι := Nat) (fun k => [(0, .sl 1 (l.map eI) .no), (1, .fn (.func g) [] [.iptr c0]), (7, .int l.length), (8, .int k)]) (fun _ => []) (fun k => k ≤ l.length ∧ ∀ j, j < k → q (l.getD j default) = false) (fun k => l.length - k) 0 ⟨nZl _, fun j h => absurd h (by omega)⟩ ⟨rfl, rfl, rfl, rfl, tI⟩ rfl ?_
 rintro k ⟨hk, hall⟩
 by_cases hlt : k < l.length
 · obtain ⟨s, hs⟩ : ∃ s, l.getD k default = s := ⟨_, rfl⟩
   have hv := hg0 s (by rw [← hs]; exact getD_mem hlt)
   repeat' (first | refine aoQ rfl rfl rfl (fun hg => by first | exact iX eI l ((k : Nat) : Int) hs (hb := by omega) | exact std0 | exact pcW (hv) rfl rfl nd rfl nds) (by exact rfl) ?_ | refine sqW ?_ | refine rgK (fun K' hK => ?_) | (refine aoN (hK _ _ ?_); clear hK K') | refine cdN rfl tI (fun hc => ?_) (fun hc => ?_) | refine blK ?_ | refine exW ?_ | refine skW ?_ | refine rtW ?_)
   all_goals (first | exact dd | skip)
   · exact ⟨.inr rfl, Ent.int (Eq.symm (findI_at hlt (by rw [hs]; exact hc) hall))⟩
   · exact ⟨k + 1, ⟨hlt, fun j hj => lt_succ_cases hall (by rw [hs]; exact hc) hj⟩, by omega, ⟨rfl, rfl, rfl, rfl, tI⟩, rfl⟩
 · repeat' (first | refine aoQ rfl rfl rfl (fun hg => by first | exact std0 | exact std1) (by exact rfl) ?_ | refine sqW ?_ | refine rgK (fun K' hK => ?_) | (refine aoN (hK _ _ ?_); clear hK K') | refine cdN rfl tI (fun hc => ?_) (fun hc => ?_) | refine blK ?_ | refine exW ?_ | refine skW ?_ | refine rtW ?_)
   all_goals (first | exact dd | skip)
   exact ⟨.inr rfl, Ent.int (Eq.symm (findI_no fun j hj => hall j (by omega)))⟩
theorem hasI1_spec (g : Nat) (c0 : List AV) (q : Int → Bool) (l : List Int) (hl : l.length ≤ 9223372036854775807) (hg0 : ∀ s ∈ l, PCall Tryz.prog g [.int s, .iptr c0] (.b (q s))) :
 PCall Tryz.prog 36 [.sl 1 (l.map eI) .no, .fn (.func g) [] [.iptr c0]] (.b (decide (findI q l ≥ 0))) := by
 have h1 := idxI1_spec g c0 q l hl hg0
 refine PCall.body Tryz.func36 rfl rfl Tryz.ntmps36 rfl rfl ?_
 repeat' (first | refine aoQ rfl rfl rfl (fun hg => by first | exact std0 | exact pcW (h1) rfl rfl nd rfl nds) (by exact rfl) ?_ | refine sqW ?_ | refine rgK (fun K' hK => ?_) | (refine aoN (hK _ _ ?_); clear hK K') | refine rtW ?_)
 exact ⟨.inr rfl, Ent.b rfl⟩
set_option maxHeartbeats 8000000 in
set_option maxRecDepth 20000 in
theorem idxR0_spec (g : Nat) (q : Jo.Rdr → Bool) (l : List Jo.Rdr) (hl : l.length ≤ 9223372036854775807) (hg0 : ∀ s ∈ l, PCall Tryz.prog g [.agg (encRd s)] (.b (q s))) :
 PCall Tryz.prog 91 [.sl 3 (l.map encRd) .no, .fn (.func g) [] []] (.int (findI q l)) := by
 refine PCall.body Tryz.func91 rfl rfl Tryz.ntmps91 rfl rfl ?_
 repeat' (first | refine aoQ rfl rfl rfl (fun hg => by first | exact std0 | exact std1) (by exact rfl) ?_ | refine sqW ?_ | refine rgK (fun K' hK => ?_) | (refine aoN (hK _ _ ?_); clear hK K') | refine blK ?_)
 refine lpW (ι := Nat) (fun k => [(0, .sl 3 (l.map encRd) .no), (1, .fn (.func g) [] []), (7, .int l.length), (8, .int k)]) (fun _ => []) (fun k => k ≤ l.length ∧ ∀ j, j < k → q (l.getD j default) = false) (fun k => l.length - k) 0 ⟨nZl _, fun j h => absurd h (by omega)⟩ ⟨rfl, rfl, rfl, rfl, tI⟩ rfl ?_
 rintro k ⟨hk, hall⟩
 by_cases hlt : k < l.length
 · obtain ⟨s, hs⟩ : ∃ s, l.getD k default = s := ⟨_, rfl⟩
   have hv := hg0 s (by rw [← hs]; exact getD_mem hlt)
   repeat' (first | refine aoQ rfl rfl rfl (fun hg => by first | exact iX encRd l ((k : Nat) : Int) hs (hb := by omega) | exact std0 | exact pcW (hv) rfl rfl nd rfl nds) (by exact rfl) ?_ | refine sqW ?_ | refine rgK (fun K' hK => ?_) | (refine aoN (hK _ _ ?_); clear hK K') | refine cdN rfl tI (fun hc => ?_) (fun hc => ?_) | refine blK ?_ | refine exW ?_ | refine skW ?_ | refine rtW ?_)
   all_goals (first | exact dd | skip)
   · exact ⟨.inr rfl, Ent.int (Eq.symm (findI_at hlt (by rw [hs]; exact hc) hall))⟩
   · exact ⟨k + 1, ⟨hlt, fun j hj => lt_succ_cases hall (by rw [hs]; exact hc) hj⟩, by omega, ⟨rfl, rfl, rfl, rfl, tI⟩, rfl⟩
 · repeat' (first | refine aoQ rfl rfl rfl (fun hg => by first | exact std0 | exact std1) (by exact rfl) ?_ | refine sqW ?_ | refine rgK (fun K' hK => ?_) | (refine aoN (hK _ _ ?_); clear hK K') | refine cdN rfl tI (fun hc => ?_) (fun hc => ?_) | refine blK ?_ | refine exW ?_ | refine skW ?_ | refine rtW ?_)
   all_goals (first | exact dd | skip)
   exact ⟨.inr rfl, Ent.int (Eq.symm (findI_no fun j hj => hall j (by omega)))⟩
theorem hasR0_spec (g : Nat) (q : Jo.Rdr → Bool) (l : List Jo.Rdr) (hl : l.length ≤ 9223372036854775807) (hg0 : ∀ s ∈ l, PCall Tryz.prog g [.agg (encRd s)] (.b (q s))) :
 PCall Tryz.prog 50 [.sl 3 (l.map encRd) .no, .fn (.func g) [] []] (.b (decide (findI q l ≥ 0))) := by
 have h1 := idxR0_spec g q l hl hg0
 refine PCall.body Tryz.func50 rfl rfl Tryz.ntmps50 rfl rfl ?_
 repeat' (first | refine aoQ rfl rfl rfl (fun hg => by first | exact std0 | exact pcW (h1) rfl rfl nd rfl nds) (by exact rfl) ?_ | refine sqW ?_ | refine rgK (fun K' hK => ?_) | (refine aoN (hK _ _ ?_); clear hK K') | refine rtW ?_)
 exact ⟨.inr rfl, Ent.b rfl⟩
set_option maxHeartbeats 8000000 in
set_option maxRecDepth 20000 in
theorem idxM0_spec (g : Nat) (q : Jo.Mark → Bool) (l : List Jo.Mark) (hl : l.length ≤ 9223372036854775807) (hg0 : ∀ s ∈ l, PCall Tryz.prog g [.agg (encMk s)] (.b (q s))) :
 PCall Tryz.prog 94 [.sl 10 (l.map encMk) .no, .fn (.func g) [] []] (.int (findI q l)) := by
 refine PCall.body Tryz.func94 rfl rfl Tryz.ntmps94 rfl rfl ?_
 repeat' (first | refine aoQ rfl rfl rfl (fun hg => by first | exact std0 | exact std1) (by exact rfl) ?_ | refine sqW ?_ | refine rgK (fun K' hK => ?_) | (refine aoN (hK _ _ ?_); clear hK K') | refine blK ?_)
 refine lpW (ι := Nat) (fun k => [(0, .sl 10 (l.map encMk) .no), (1, .fn (.func g) [] []), (7, .int l.length), (8, .int k)]) (fun _ => []) (fun k => k ≤ l.length ∧ ∀ j, j < k → q (l.getD j default) = false) (fun k => l.length - k) 0 ⟨nZl _, fun j h => absurd h (by omega)⟩ ⟨rfl, rfl, rfl, rfl, tI⟩ rfl ?_
 rintro k ⟨hk, hall⟩
 by_cases hlt : k < l.length
 · obtain ⟨s, hs⟩ : ∃ s, l.getD k default = s := ⟨_, rfl⟩
   have hv := hg0 s (by rw [← hs]; exact getD_mem hlt)
   repeat' (first | refine aoQ rfl rfl rfl (fun hg => by first | exact iX encMk l ((k : Nat) : Int) hs (hb := by omega) | exact std0 | exact pcW (hv) rfl rfl nd rfl nds) (by exact rfl) ?_ | refine sqW ?_ | refine rgK (fun K' hK => ?_) | (refine aoN (hK _ _ ?_); clear hK K') | refine cdN rfl tI (fun hc => ?_) (fun hc => ?_) | refine blK ?_ | refine exW ?_ | refine skW ?_ | refine rtW ?_)
   all_goals (first | exact dd | skip)
   · exact ⟨.inr rfl, Ent.int (Eq.symm (findI_at hlt (by rw [hs]; exact hc) hall))⟩
   · exact ⟨k + 1, ⟨hlt, fun j hj => lt_succ_cases hall (by rw [hs]; exact hc) hj⟩, by omega, ⟨rfl, rfl, rfl, rfl, tI⟩, rfl⟩
 · repeat' (first | refine aoQ rfl rfl rfl (fun hg => by first | exact std0 | exact std1) (by exact rfl) ?_ | refine sqW ?_ | refine rgK (fun K' hK => ?_) | (refine aoN (hK _ _ ?_); clear hK K') | refine cdN rfl tI (fun hc => ?_) (fun hc => ?_) | refine blK ?_ | refine exW ?_ | refine skW ?_ | refine rtW ?_)
   all_goals (first | exact dd | skip)
   exact ⟨.inr rfl, Ent.int (Eq.symm (findI_no fun j hj => hall j (by omega)))⟩
theorem hasM0_spec (g : Nat) (q : Jo.Mark → Bool) (l : List Jo.Mark) (hl : l.length ≤ 9223372036854775807) (hg0 : ∀ s ∈ l, PCall Tryz.prog g [.agg (encMk s)] (.b (q s))) :
 PCall Tryz.prog 55 [.sl 10 (l.map encMk) .no, .fn (.func g) [] []] (.b (decide (findI q l ≥ 0))) := by
 have h1 := idxM0_spec g q l hl hg0
 refine PCall.body Tryz.func55 rfl rfl Tryz.ntmps55 rfl rfl ?_
 repeat' (first | refine aoQ rfl rfl rfl (fun hg => by first | exact std0 | exact pcW (h1) rfl rfl nd rfl nds) (by exact rfl) ?_ | refine sqW ?_ | refine rgK (fun K' hK => ?_) | (refine aoN (hK _ _ ?_); clear hK K') | refine rtW ?_)
 exact ⟨.inr rfl, Ent.b rfl⟩
set_option maxHeartbeats 8000000 in
set_option maxRecDepth 20000 in
theorem idxM1_spec (g : Nat) (c0 : List AV) (q : Jo.Mark → Bool) (l : List Jo.Mark) (hl : l.length ≤ 9223372036854775807) (hg0 : ∀ s ∈ l, PCall Tryz.prog g [.agg (encMk s), .iptr c0] (.b (q s))) :
 PCall Tryz.prog 94 [.sl 10 (l.map encMk) .no, .fn (.func g) [] [.iptr c0]] (.int (findI q l)) := by
 refine PCall.body Tryz.func94 rfl rfl Tryz.ntmps94 rfl rfl ?_
 repeat' (first | refine aoQ rfl rfl rfl (fun hg => by first | exact std0 | exact std1) (by exact rfl) ?_ | refine sqW ?_ | refine rgK (fun K' hK => ?_) | (refine aoN (hK _ _ ?_); clear hK K') | refine blK ?_)
 refine lpW (ι := Nat) (fun k => [(0, .sl 10 (l.map encMk) .no), (1, .fn (.func g) [] [.iptr c0]), (7, .int l.length), (8, .int k)]) (fun _ => []) (fun k => k ≤ l.length ∧ ∀ j, j < k → q (l.getD j default) = false) (fun k => l.length - k) 0 ⟨nZl _, fun j h => absurd h (by omega)⟩ ⟨rfl, rfl, rfl, rfl, tI⟩ rfl ?_
 rintro k ⟨hk, hall⟩
 by_cases hlt : k < l.length
 · obtain ⟨s, hs⟩ : ∃ s, l.getD k default = s := ⟨_, rfl⟩
   have hv := hg0 s (by rw [← hs]; exact getD_mem hlt)
   repeat' (first | refine aoQ rfl rfl rfl (fun hg => by first | exact iX encMk l ((k : Nat) : Int) hs (hb := by omega) | exact std0 | exact pcW (hv) rfl rfl nd rfl nds) (by exact rfl) ?_ | refine sqW ?_ | refine rgK (fun K' hK => ?_) | (refine aoN (hK _ _ ?_); clear hK K') | refine cdN rfl tI (fun hc => ?_) (fun hc => ?_) | refine blK ?_ | refine exW ?_ | refine skW ?_ | refine rtW ?_)
   all_goals (first | exact dd | skip)
   · exact ⟨.inr rfl, Ent.int (Eq.symm (findI_at hlt (by rw [hs]; exact hc) hall))⟩
   · exact ⟨k + 1, ⟨hlt, fun j hj => lt_succ_cases hall (by rw [hs]; exact hc) hj⟩, by omega, ⟨rfl, rfl, rfl, rfl, tI⟩, rfl⟩
 · repeat' (first | refine aoQ rfl rfl rfl (fun hg => by first | exact std0 | exact std1) (by exact rfl) ?_ | refine sqW ?_ | refine rgK (fun K' hK => ?_) | (refine aoN (hK _ _ ?_); clear hK K') | refine cdN rfl tI (fun hc => ?_) (fun hc => ?_) | refine blK ?_ | refine exW ?_ | refine skW ?_ | refine rtW ?_)
   all_goals (first | exact dd | skip)
   exact ⟨.inr rfl, Ent.int (Eq.symm (findI_no fun j hj => hall j (by omega)))⟩
theorem hasM1_spec (g : Nat) (c0 : List AV) (q : Jo.Mark → Bool) (l : List Jo.Mark) (hl : l.length ≤ 9223372036854775807) (hg0 : ∀ s ∈ l, PCall Tryz.prog g [.agg (encMk s), .iptr c0] (.b (q s))) :
 PCall Tryz.prog 55 [.sl 10 (l.map encMk) .no, .fn (.func g) [] [.iptr c0]] (.b (decide (findI q l ≥ 0))) := by
 have h1 := idxM1_spec g c0 q l hl hg0
 refine PCall.body Tryz.func55 rfl rfl Tryz.ntmps55 rfl rfl ?_
 repeat' (first | refine aoQ rfl rfl rfl (fun hg => by first | exact std0 | exact pcW (h1) rfl rfl nd rfl nds) (by exact rfl) ?_ | refine sqW ?_ | refine rgK (fun K' hK => ?_) | (refine aoN (hK _ _ ?_); clear hK K') | refine rtW ?_)
 exact ⟨.inr rfl, Ent.b rfl⟩
set_option maxHeartbeats 8000000 in
set_option maxRecDepth 20000 in
theorem idxM2_spec (g : Nat) (c0 : List AV) (c1 : List AV) (q : Jo.Mark → Bool) (l : List Jo.Mark) (hl : l.length ≤ 9223372036854775807) (hg0 : ∀ s ∈ l, PCall Tryz.prog g [.agg (encMk s), .iptr c0, .iptr c1] (.b (q s))) :
 PCall Tryz.prog 94 [.sl 10 (l.map encMk) .no, .fn (.func g) [] [.iptr c0, .iptr c1]] (.int (findI q l)) := by
 refine PCall.body Tryz.func94 rfl rfl Tryz.ntmps94 rfl rfl ?_
 repeat' (first | refine aoQ rfl rfl rfl (fun hg => by first | exact std0 | exact std1) (by exact rfl) ?_ | refine sqW ?_ | refine rgK (fun K' hK => ?_) | (refine aoN (hK _ _ ?_); clear hK K') | refine blK ?_)
 refine lpW (ι := Nat) (fun k => [(0, .sl 10 (l.map encMk) .no), (1, .fn (.func g) [] [.iptr c0, .iptr c1]), (7, .int l.length), (8, .int k)]) (fun _ => []) (fun k => k ≤ l.length ∧ ∀ j, j < k → q (l.getD j default) = false) (fun k => l.length - k) 0 ⟨nZl _, fun j h => absurd h (by omega)⟩ ⟨rfl, rfl, rfl, rfl, tI⟩ rfl ?_
 rintro k ⟨hk, hall⟩
 by_cases hlt : k < l.length
 · obtain ⟨s, hs⟩ : ∃ s, l.getD k default = s := ⟨_, rfl⟩
   have hv := hg0 s (by rw [← hs]; exact getD_mem hlt)
   repeat' (first | refine aoQ rfl rfl rfl (fun hg => by first | exact iX encMk l ((k : Nat) : Int) hs (hb := by omega) | exact std0 | exact pcW (hv) rfl rfl nd rfl nds) (by exact rfl) ?_ | refine sqW ?_ | refine rgK (fun K' hK => ?_) | (refine aoN (hK _ _ ?_); clear hK K') | refine cdN rfl tI (fun hc => ?_) (fun hc => ?_) | refine blK ?_ | refine exW ?_ | refine skW ?_ | refine rtW ?_)
   all_goals (first | exact dd | skip)
   · exact ⟨.inr rfl, Ent.int (Eq.symm (findI_at hlt (by rw [hs]; exact hc) hall))⟩
   · exact ⟨k + 1, ⟨hlt, fun j hj => lt_succ_cases hall (by rw [hs]; exact hc) hj⟩, by omega, ⟨rfl, rfl, rfl, rfl, tI⟩, rfl⟩
 · repeat' (first | refine aoQ rfl rfl rfl (fun hg => by first | exact std0 | exact std1) (by exact rfl) ?_ | refine sqW ?_ | refine rgK (fun K' hK => ?_) | (refine aoN (hK _ _ ?_); clear hK K') | refine cdN rfl tI (fun hc => ?_) (fun hc => ?_) | refine blK ?_ | refine exW ?_ | refine skW ?_ | refine rtW ?_)
   all_goals (first | exact dd | skip)
   exact ⟨.inr rfl, Ent.int (Eq.symm (findI_no fun j hj => hall j (by omega)))⟩
theorem hasM2_spec (g : Nat) (c0 : List AV) (c1 : List AV) (q : Jo.Mark → Bool) (l : List Jo.Mark) (hl : l.length ≤ 9223372036854775807) (hg0 : ∀ s ∈ l, PCall Tryz.prog g [.agg (encMk s), .iptr c0, .iptr c1] (.b (q s))) :
 PCall Tryz.prog 55 [.sl 10 (l.map encMk) .no, .fn (.func g) [] [.iptr c0, .iptr c1]] (.b (decide (findI q l ≥ 0))) := by
 have h1 := idxM2_spec g c0 c1 q l hl hg0
 refine PCall.body Tryz.func55 rfl rfl Tryz.ntmps55 rfl rfl ?_
 repeat' (first | refine aoQ rfl rfl rfl (fun hg => by first | exact std0 | exact pcW (h1) rfl rfl nd rfl nds) (by exact rfl) ?_ | refine sqW ?_ | refine rgK (fun K' hK => ?_) | (refine aoN (hK _ _ ?_); clear hK K') | refine rtW ?_)
 exact ⟨.inr rfl, Ent.b rfl⟩
set_option maxHeartbeats 8000000 in
set_option maxRecDepth 20000 in
theorem idxB1_spec (g : Nat) (c0 : List AV) (q : Bar → Bool) (l : List Bar) (hl : l.length ≤ 9223372036854775807) (hg0 : ∀ s ∈ l, PCall Tryz.prog g [.agg (encB s), .iptr c0] (.b (q s))) :
 PCall Tryz.prog 81 [.sl 4 (l.map encB) .no, .fn (.func g) [] [.iptr c0]] (.int (findI q l)) := by
 refine PCall.body Tryz.func81 rfl rfl Tryz.ntmps81 rfl rfl ?_
 repeat' (first | refine aoQ rfl rfl rfl (fun hg => by first | exact std0 | exact std1) (by exact rfl) ?_ | refine sqW ?_ | refine rgK (fun K' hK => ?_) | (refine aoN (hK _ _ ?_); clear hK K') | refine blK ?_)
 refine lpW (ι := Nat) (fun k => [(0, .sl 4 (l.map encB) .no), (1, .fn (.func g) [] [.iptr c0]), (7, .int l.length), (8, .int k)]) (fun _ => []) (fun k => k ≤ l.length ∧ ∀ j, j < k → q (l.getD j default) = false) (fun k => l.length - k) 0 ⟨nZl _, fun j h => absurd h (by omega)⟩ ⟨rfl, rfl, rfl, rfl, tI⟩ rfl ?_
 rintro k ⟨hk, hall⟩
 by_cases hlt : k < l.length
 · obtain ⟨s, hs⟩ : ∃ s, l.getD k default = s := ⟨_, rfl⟩
   have hv := hg0 s (by rw [← hs]; exact getD_mem hlt)
   repeat' (first | refine aoQ rfl rfl rfl (fun hg => by first | exact iX encB l ((k : Nat) : Int) hs (hb := by omega) | exact std0 | exact pcW (hv) rfl rfl nd rfl nds) (by exact rfl) ?_ | refine sqW ?_ | refine rgK (fun K' hK => ?_) | (refine aoN (hK _ _ ?_); clear hK K') | refine cdN rfl tI (fun hc => ?_) (fun hc => ?_) | refine blK ?_ | refine exW ?_ | refine skW ?_ | refine rtW ?_)
   all_goals (first | exact dd | skip)
   · exact ⟨.inr rfl, Ent.int (Eq.symm (findI_at hlt (by rw [hs]; exact hc) hall))⟩
   · exact ⟨k + 1, ⟨hlt, fun j hj => lt_succ_cases hall (by rw [hs]; exact hc) hj⟩, by omega, ⟨rfl, rfl, rfl, rfl, tI⟩, rfl⟩
 · repeat' (first | refine aoQ rfl rfl rfl (fun hg => by first | exact std0 | exact std1) (by exact rfl) ?_ | refine sqW ?_ | refine rgK (fun K' hK => ?_) | (refine aoN (hK _ _ ?_); clear hK K') | refine cdN rfl tI (fun hc => ?_) (fun hc => ?_) | refine blK ?_ | refine exW ?_ | refine skW ?_ | refine rtW ?_)
   all_goals (first | exact dd | skip)
   exact ⟨.inr rfl, Ent.int (Eq.symm (findI_no fun j hj => hall j (by omega)))⟩
theorem findI_any' {α : Type} [Inhabited α] (q : α → Bool) (l : List α) : decide (findI q l ≥ 0) = l.any q := by
 rw [zAs, decide_eq_true_iff, zBw]
 constructor
 · intro h
   obtain ⟨k, _, h2, h3, _⟩ := findI_lt h
   exact ⟨_, by rw [getD_lt h2]; exact lGm h2, h3⟩
 · rintro ⟨x, hx, hp⟩
   rcases (show findI q l ≥ 0 ∨ findI q l < 0 by omega) with h | h
   · exact h
   · exfalso
     have h2 := findI_neg.1 h
     unfold findI at h2
     split at h2
     · omega
     · rename_i h3
       rw [zCg] at h3
       rw [h3 x hx] at hp; cases hp
set_option maxHeartbeats 8000000 in
set_option maxRecDepth 20000 in
theorem index_int (l : List Int) (hl : l.length ≤ 9223372036854775807) (v : Int) : PCall Tryz.prog 92 [.sl 1 (l.map eI) .no, .int v] (.int (findI (fun s => v == s) l)) := by
 refine PCall.body Tryz.func92 rfl rfl Tryz.ntmps92 rfl rfl ?_
 repeat' (first | refine aoQ rfl rfl rfl (fun hg => by first | exact std0 | exact std1) (by exact rfl) ?_ | refine sqW ?_ | refine rgK (fun K' hK => ?_) | (refine aoN (hK _ _ ?_); clear hK K') | refine blK ?_)
 refine lpW (ι := Nat) (fun k => [(0, .sl 1 (l.map eI) .no), (1, .int v), (7, .int l.length), (8, .int k)]) (fun _ => []) (fun k => k ≤ l.length ∧ ∀ j, j < k → (v == (l.getD j default)) = false) (fun k => l.length - k) 0 ⟨nZl _, fun j h => absurd h (by omega)⟩ ⟨rfl, rfl, rfl, rfl, tI⟩ rfl ?_
 rintro k ⟨hk, hall⟩
 by_cases hlt : k < l.length
 · obtain ⟨s, hs⟩ : ∃ s, l.getD k default = s := ⟨_, rfl⟩
   repeat' (first | refine aoQ rfl rfl rfl (fun hg => by first | exact iX eI l ((k : Nat) : Int) hs (hb := by omega) | exact std0) (by exact rfl) ?_ | refine sqW ?_ | refine rgK (fun K' hK => ?_) | (refine aoN (hK _ _ ?_); clear hK K') | refine cdN rfl tI (fun hc => ?_) (fun hc => ?_) | refine blK ?_ | refine exW ?_ | refine skW ?_ | refine rtW ?_)
   all_goals (first | exact dd | skip)
   · exact ⟨.inr rfl, Ent.int (Eq.symm (findI_at hlt (by rw [hs]; exact hc) hall))⟩
   · exact ⟨k + 1, ⟨hlt, fun j hj => lt_succ_cases hall (by rw [hs]; exact hc) hj⟩, by omega, ⟨rfl, rfl, rfl, rfl, tI⟩, rfl⟩
 · repeat' (first | refine aoQ rfl rfl rfl (fun hg => by first | exact std0 | exact std1) (by exact rfl) ?_ | refine sqW ?_ | refine rgK (fun K' hK => ?_) | (refine aoN (hK _ _ ?_); clear hK K') | refine cdN rfl tI (fun hc => ?_) (fun hc => ?_) | refine blK ?_ | refine exW ?_ | refine skW ?_ | refine rtW ?_)
   all_goals (first | exact dd | skip)
   exact ⟨.inr rfl, Ent.int (Eq.symm (findI_no fun j hj => hall j (by omega)))⟩
theorem contains_int (l : List Int) (hl : l.length ≤ 9223372036854775807) (v : Int) : PCall Tryz.prog 51 [.sl 1 (l.map eI) .no, .int v] (.b (hasI l v)) := by
 have h1 := index_int l hl v
 have e : decide (findI (fun s => v == s) l ≥ 0) = hasI l v := by
  rw [findI_any']; unfold hasI
  congr 1; funext s
  rw [zAs, beq_iff_eq, beq_iff_eq]; exact eq_comm
 rw [← e]
 refine PCall.body Tryz.func51 rfl rfl Tryz.ntmps51 rfl rfl ?_
 repeat' (first | refine aoQ rfl rfl rfl (fun hg => by first | exact std0 | exact pcW (h1) rfl rfl nd rfl nds) (by exact rfl) ?_ | refine sqW ?_ | refine rgK (fun K' hK => ?_) | (refine aoN (hK _ _ ?_); clear hK K') | refine rtW ?_)
 exact ⟨.inr rfl, Ent.b rfl⟩
theorem has20_spec (l : List Int) (hl : l.length ≤ 9223372036854775807) (v : Int) : PCall Tryz.prog 25 [.sl 1 (l.map eI) .no, .int v] (.b (hasI l v)) := by
 have e : hasI l v = decide (findI (fun s => s == v) l ≥ 0) := (findI_any' _ _).symm
 rw [e]
 refine PCall.body Tryz.func25 rfl rfl Tryz.ntmps25 rfl rfl ?_
 repeat' (first | refine aoQ rfl rfl rfl (fun hg => by exact std0) (by exact rfl) ?_ | refine sqW ?_ | refine rgK (fun K' hK => ?_) | (refine aoN (hK _ _ ?_); clear hK K') | refine blK ?_)
 refine lpW (ι := Nat) (fun k => [(0, .sl 1 (l.map eI) .no), (1, .int v), (5, .int k)]) (fun _ => []) (fun k => k ≤ l.length ∧ ∀ j, j < k → ((l.getD j default) == v) = false) (fun k => l.length - k) 0 ⟨nZl _, fun j h => absurd h (by omega)⟩ ⟨rfl, rfl, rfl, tI⟩ rfl ?_
 rintro k ⟨hk, hall⟩
 by_cases hlt : k < l.length
 · obtain ⟨s, hs⟩ : ∃ s, l.getD k default = s := ⟨_, rfl⟩
   repeat' (first | refine aoQ rfl rfl rfl (fun hg => by first | exact iX eI l ((k : Nat) : Int) hs (hb := by omega) | exact std0 | exact std1) (by exact rfl) ?_ | refine sqW ?_ | refine rgK (fun K' hK => ?_) | (refine aoN (hK _ _ ?_); clear hK K') | refine cdN rfl tI (fun hc => ?_) (fun hc => ?_) | refine blK ?_ | refine exW ?_ | refine skW ?_ | refine rtW ?_)
   all_goals (first | exact dd | skip)
   · exact ⟨.inr rfl, Ent.b (by rw [findI_at hlt (by rw [hs]; exact hc) hall]; exact (decide_eq_true (by omega)).symm)⟩
   · exact ⟨k + 1, ⟨hlt, fun j hj => lt_succ_cases hall (by rw [hs]; exact hc) hj⟩, by omega, ⟨rfl, rfl, rfl, tI⟩, rfl⟩
 · repeat' (first | refine aoQ rfl rfl rfl (fun hg => by first | exact std0 | exact std1) (by exact rfl) ?_ | refine sqW ?_ | refine rgK (fun K' hK => ?_) | (refine aoN (hK _ _ ?_); clear hK K') | refine cdN rfl tI (fun hc => ?_) (fun hc => ?_) | refine blK ?_ | refine exW ?_ | refine skW ?_ | refine rtW ?_)
   all_goals (first | exact dd | skip)
   exact ⟨.inr rfl, Ent.b (by rw [findI_no fun j hj => hall j (by omega)]; rfl)⟩
theorem bwithin_spec (a b c : Int) : PCall Tryz.prog 35 [.int a, .int b, .int c] (.b (Jo.inR a b c)) := by
 refine PCall.body Tryz.func35 rfl rfl Tryz.ntmps35 rfl rfl ?_
 repeat' (first | refine aoQ rfl rfl rfl (fun hg => by exact std0) (by exact rfl) ?_ | refine sqW ?_ | refine rgK (fun K' hK => ?_) | (refine aoN (hK _ _ ?_); clear hK K') | refine rtW ?_)
 exact ⟨.inr rfl, Ent.b rfl⟩
theorem r20in_spec (a b c : Int) : PCall Tryz.prog 59 [.int a, .int b, .int c] (.b (Jo.inR a b c)) := by
 refine PCall.body Tryz.func59 rfl rfl Tryz.ntmps59 rfl rfl ?_
 repeat' (first | refine aoQ rfl rfl rfl (fun hg => by exact std0) (by exact rfl) ?_ | refine sqW ?_ | refine rgK (fun K' hK => ?_) | (refine aoN (hK _ _ ?_); clear hK K') | refine rtW ?_)
 exact ⟨.inr rfl, Ent.b rfl⟩
theorem bid_spec (a : Int) : PCall Tryz.prog 32 [.int a] (.b (Jo.isId a)) := by
 have h := bwithin_spec a 1 1000000
 refine PCall.body Tryz.func32 rfl rfl Tryz.ntmps32 rfl rfl ?_
 repeat' (first | refine aoQ rfl rfl rfl (fun hg => by first | exact std0 | exact pcW (h) rfl rfl nd rfl nds) (by exact rfl) ?_ | refine sqW ?_ | refine rgK (fun K' hK => ?_) | (refine aoN (hK _ _ ?_); clear hK K') | refine rtW ?_)
 exact ⟨.inr rfl, Ent.b rfl⟩
theorem brdr_spec (r : Jo.Rdr) : PCall Tryz.prog 48 [.agg (encRd r)] (.b (Jo.isRdr r)) := by
 have h1 := bid_spec r.part
 have h2 := bwithin_spec r.desk 1 40
 have h3 := bwithin_spec r.seat 1 4
 refine PCall.body Tryz.func48 rfl rfl Tryz.ntmps48 rfl rfl ?_
 repeat' (first | refine aoQ rfl rfl rfl (fun hg => by first | exact std0 | exact pcW (h1) rfl rfl nd rfl nds | exact pcW (h2) rfl rfl nd rfl nds | exact pcW (h3) rfl rfl nd rfl nds) (by exact rfl) ?_ | refine sqW ?_ | refine rgK (fun K' hK => ?_) | (refine aoN (hK _ _ ?_); clear hK K') | refine aoE (bxW rfl rfl rfl rfl rfl tI rfl rfl ?_) | refine rtW ?_)
 exact ⟨.inr rfl, Ent.b (by unfold Jo.isRdr; rfl)⟩
theorem bc1_spec (a : Int) : PCall Tryz.prog 31 [.int a] (.b (!Jo.isId a)) := by
 have h := bid_spec a
 refine PCall.body Tryz.func31 rfl rfl Tryz.ntmps31 rfl rfl ?_
 repeat' (first | refine aoQ rfl rfl rfl (fun hg => by first | exact std0 | exact pcW (h) rfl rfl nd rfl nds) (by exact rfl) ?_ | refine sqW ?_ | refine rgK (fun K' hK => ?_) | (refine aoN (hK _ _ ?_); clear hK K') | refine rtW ?_)
 exact ⟨.inr rfl, Ent.b rfl⟩
theorem bo1_spec (a : Int) : PCall Tryz.prog 46 [.int a] (.b (!Jo.isId a)) := by
 have h := bid_spec a
 refine PCall.body Tryz.func46 rfl rfl Tryz.ntmps46 rfl rfl ?_
 repeat' (first | refine aoQ rfl rfl rfl (fun hg => by first | exact std0 | exact pcW (h) rfl rfl nd rfl nds) (by exact rfl) ?_ | refine sqW ?_ | refine rgK (fun K' hK => ?_) | (refine aoN (hK _ _ ?_); clear hK K') | refine rtW ?_)
 exact ⟨.inr rfl, Ent.b rfl⟩
theorem bo2_spec (r : Jo.Rdr) : PCall Tryz.prog 47 [.agg (encRd r)] (.b (!Jo.isRdr r)) := by
 have h := brdr_spec r
 refine PCall.body Tryz.func47 rfl rfl Tryz.ntmps47 rfl rfl ?_
 repeat' (first | refine aoQ rfl rfl rfl (fun hg => by first | exact std0 | exact pcW (h) rfl rfl nd rfl nds) (by exact rfl) ?_ | refine sqW ?_ | refine rgK (fun K' hK => ?_) | (refine aoN (hK _ _ ?_); clear hK K') | refine aoE (bxW rfl rfl rfl rfl rfl tI rfl rfl ?_) | refine rtW ?_)
 exact ⟨.inr rfl, Ent.b rfl⟩
theorem bo3_spec (a : Int) : PCall Tryz.prog 49 [.int a] (.b (a != 1 && a != 2)) := by
 refine PCall.body Tryz.func49 rfl rfl Tryz.ntmps49 rfl rfl ?_
 repeat' (first | refine aoQ rfl rfl rfl (fun hg => by exact std0) (by exact rfl) ?_ | refine sqW ?_ | refine rgK (fun K' hK => ?_) | (refine aoN (hK _ _ ?_); clear hK K') | refine rtW ?_)
 exact ⟨.inr rfl, Ent.b rfl⟩
theorem bm1_spec (m : Jo.Mark) (ht : m.text.length ≤ 9223372036854775807) : PCall Tryz.prog 79 [.agg (encMk m)] (.b (!Jo.markOk m)) := by
 have h := Mk.mvalid_spec m ht
 refine PCall.body Tryz.func79 rfl rfl Tryz.ntmps79 rfl rfl ?_
 repeat' (first | refine aoQ rfl rfl rfl (fun hg => by first | exact std0 | exact pcW (h) rfl rfl nd rfl nds) (by exact rfl) ?_ | refine sqW ?_ | refine rgK (fun K' hK => ?_) | (refine aoN (hK _ _ ?_); clear hK K') | refine aoE (bxW rfl rfl rfl rfl rfl tI rfl rfl ?_) | refine rtW ?_)
 exact ⟨.inr rfl, Ent.b rfl⟩
theorem br1_spec (m : Jo.Mark) (id : Int) : PCall Tryz.prog 56 [.agg (encMk m), .iptr [.int id]] (.b (decide (m.id ≥ id))) := by
 refine PCall.body Tryz.func56 rfl rfl Tryz.ntmps56 rfl rfl ?_
 repeat' (first | refine aoQ rfl rfl rfl (fun hg => by exact std0) (by exact rfl) ?_ | refine sqW ?_ | refine rgK (fun K' hK => ?_) | (refine aoN (hK _ _ ?_); clear hK K') | refine aoE (bxW rfl rfl rfl rfl rfl tI rfl rfl ?_) | refine rtW ?_)
 exact ⟨.inr rfl, Ent.b rfl⟩
theorem bcmp_spec (a b : Int) : PCall Tryz.prog 86 [.int a, .int b] (.int (if a < b then -1 else if a > b then 1 else 0)) := by
 have h1 : ∀ x : Int, PCall Tryz.prog 131 [.int x] (.b false) := fun x => by
  refine PCall.body Tryz.func131 rfl rfl Tryz.ntmps131 rfl rfl ?_
  repeat' (first | refine aoQ rfl rfl rfl (fun hg => by exact std0) (by exact rfl) ?_ | refine sqW ?_ | refine rgK (fun K' hK => ?_) | (refine aoN (hK _ _ ?_); clear hK K') | refine rtW ?_)
  exact ⟨.inr rfl, Ent.b (by simp)⟩
 refine PCall.body Tryz.func86 rfl rfl Tryz.ntmps86 rfl rfl ?_
 repeat' (first | refine aoQ rfl rfl rfl (fun hg => by first | exact std0 | exact pcW (h1 _) rfl rfl nd rfl nds) (by exact rfl) ?_ | refine sqW ?_ | refine rgK (fun K' hK => ?_) | (refine aoN (hK _ _ ?_); clear hK K') | refine cdN rfl tI (fun hc => ?_) (fun hc => ?_) | refine skW ?_ | refine rtW ?_)
 all_goals (first | (exfalso; simp_all; done) | skip)
 · exact ⟨.inr rfl, Ent.int (by rw [if_pos (by omega)])⟩
 · exact ⟨.inr rfl, Ent.int (by rw [if_neg (by omega), if_pos (by omega)])⟩
 · exact ⟨.inr rfl, Ent.int (by rw [if_neg (by omega), if_neg (by omega)])⟩
end Go.Proofs.YtficfljjnbnhbaaGreatDoor.Bw
