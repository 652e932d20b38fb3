/- Contracts by content: the marks that a reader sees, in plain words. No statement is proved here. -/
import Derived.Test.YthfcafcjkaemiaaGreatDoorMG
import Derived.Test.YthfcafcjkaemiaaGreatDoorCS
import Derived.Test.YthfcafcjkaemiaaGreatDoorSI
import Derived.Test.YthfcafcjkaemiaaGreatDoorSX
set_option linter.unusedVariables false
set_option linter.unusedSimpArgs false
namespace Go.Proofs.YthfcafcjkaemiaaGreatDoor.Mk
open Go.Ab Go.Jo
attribute [local irreducible] AWP AOps EStep AQ PStep PRun PCall TCall VCall DStep TDies AWD DCall

abbrev evM (m : Jo.Mark) : AV := .agg (encMk m)
theorem one_encMk (l : List Jo.Mark) : ∀ x ∈ l.map encMk, x.all oneAV = true := fun x hx => by
  obtain ⟨c, _, rfl⟩ := List.mem_map.1 hx; rfl
abbrev kinds : List Int := [1, 2, 3, 4, 5]
def shownL (f : Int → Int → Option Jo.Mark) (ns : List Note) : List Jo.Mark := ns.flatMap fun n => kinds.filterMap (f n.id)
def shownF (s : Score) (l : List Jo.Mark) (p : Part) (r : Rdr) : Int → Int → Option Jo.Mark := fun n k => bestM (okFor s.version n k p.section_ r) l
def partI (s : Score) (id : Int) : Int := findI (fun x : Part => x.id == id) s.parts
def shownR (s : Score) (l : List Jo.Mark) (r : Rdr) : List Jo.Mark × Int :=
  if (scoreOk s && marksOk l) && isRdr r then
    (if partI s r.part ≥ 0 then
       (if (s.parts.getD (partI s r.part).toNat default).desks < r.desk then ([], 22) else (shownL (shownF s l (s.parts.getD (partI s r.part).toNat default) r) (playedL s.notes (s.parts.getD (partI s r.part).toNat default)), 0))
     else ([], 22))
  else ([], 1)
abbrev tupM (r : List Jo.Mark × Int) : AV := .tup [.sl 10 (r.1.map encMk) .no, .int r.2]
theorem rdr_part {r : Rdr} (h : isRdr r = true) : inB r.part 1 1000000 = true := by
  unfold isRdr isId at h; simp only [Bool.and_eq_true] at h; exact h.1.1
theorem partR_yes {s : Score} {r : Rdr} (hok : scoreOk s = true) (hr : isRdr r = true) {k : Nat} (e : partI s r.part = k) : partR s r.part = ((k : Int), true, 0) := by
  unfold partI at e
  unfold partR idR askedB; rw [hok, rdr_part hr, e]; simp [Go.Proofs.YthfcafcjkaemiaaGreatDoor.idxR]
theorem partR_no {s : Score} {r : Rdr} (hok : scoreOk s = true) (hr : isRdr r = true) (h : ¬ partI s r.part ≥ 0) : partR s r.part = (0, false, 0) := by
  unfold partI at h
  unfold partR idR askedB; rw [hok, rdr_part hr]; simp [Go.Proofs.YthfcafcjkaemiaaGreatDoor.idxR]; omega
theorem filterMap_len {α β : Type} (f : α → Option β) (l : List α) : (l.filterMap f).length ≤ l.length := List.length_filterMap_le f l
theorem shownL_len (f : Int → Int → Option Jo.Mark) : ∀ ns : List Note, (shownL f ns).length ≤ 5 * ns.length
  | [] => by simp [shownL]
  | n :: t => by
    have ih := shownL_len f t
    have h1 := filterMap_len (f n.id) kinds
    unfold shownL at ih ⊢
    rw [List.flatMap_cons, List.length_append, List.length_cons]
    have h2 : kinds.length = 5 := rfl
    omega
theorem shownL_snoc (f : Int → Int → Option Jo.Mark) {ns : List Note} {j : Nat} (h : j < ns.length) : shownL f (ns.take (j + 1)) = shownL f (ns.take j) ++ kinds.filterMap (f (ns.getD j default).id) := by
  rw [take_snoc h]; unfold shownL; rw [List.flatMap_append]; simp
theorem kinds_at {kd : Nat} (h : kd < 5) (g : Int → Option Jo.Mark) : (kinds.take (kd + 1)).filterMap g = (kinds.take kd).filterMap g ++ (match g ((kd : Int) + 1) with | none => [] | some m => [m]) := by
  have h5 : kd = 0 ∨ kd = 1 ∨ kd = 2 ∨ kd = 3 ∨ kd = 4 := by omega
  rcases h5 with rfl | rfl | rfl | rfl | rfl
  · show List.filterMap g [1] = _ ++ (match g 1 with | none => [] | some m => [m]); cases h : g 1 <;> simp [h]
  · show List.filterMap g ([1] ++ [2]) = List.filterMap g [1] ++ (match g 2 with | none => [] | some m => [m]); rw [List.filterMap_append]; congr 1; cases h : g 2 <;> simp [h]
  · show List.filterMap g ([1, 2] ++ [3]) = List.filterMap g [1, 2] ++ (match g 3 with | none => [] | some m => [m]); rw [List.filterMap_append]; congr 1; cases h : g 3 <;> simp [h]
  · show List.filterMap g ([1, 2, 3] ++ [4]) = List.filterMap g [1, 2, 3] ++ (match g 4 with | none => [] | some m => [m]); rw [List.filterMap_append]; congr 1; cases h : g 4 <;> simp [h]
  · show List.filterMap g ([1, 2, 3, 4] ++ [5]) = List.filterMap g [1, 2, 3, 4] ++ (match g 5 with | none => [] | some m => [m]); rw [List.filterMap_append]; congr 1; cases h : g 5 <;> simp [h]
theorem okObj_mapM (m : Nat) (al : List ((Int × Int) × Jo.Mark)) : okObj m (.map (Go.Ab.encM ekP evM al)) = true := by
  simp [okObj, Go.Ab.encM, okRef, encMk]
theorem marksOk_at {l : List Jo.Mark} (h : marksOk l = true) {k : Nat} (hk : k < l.length) : markOk (l.getD k default) = true := by
  unfold marksOk at h
  simp only [Bool.and_eq_true, List.all_eq_true] at h
  exact h.1.1 _ (by rw [getD_lt hk]; exact List.getElem_mem hk)
end Go.Proofs.YthfcafcjkaemiaaGreatDoor.Mk
