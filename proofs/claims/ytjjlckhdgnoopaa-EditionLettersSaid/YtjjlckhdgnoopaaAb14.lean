/- Runes of a string, in the walk's form. -/
import Derived.Test.YtjjlckhdgnoopaaAb13
namespace Go.Ab

theorem EStep.nextR {P : Program} {n : Nat} {ops : Array Oper} {o : Oper} {env : Env} {σ : Store} {k : Env → Store → Prop} {it : Operand} {d l pos : Nat} {s : ByteArray} {c wd : Nat} (hdec : Utf8.decode s pos = (c, wd)) (hp : pos < s.size) (ho : o.op = .next it true) (hg : o.guard = none) (hd : o.dst = some d) (hdn : decide (d < n) = true) (hx : rdv env it = some (.ptr l 0)) (nx : rdn env it)
    (hσ : σ[l]? = some (.siter s pos)) (hk : k (env.put d (.tup [.b true, .int pos, .prim (.int .i32 c)])) (σ.set l (.siter s (pos + wd)))) : EStep P n ops o k env σ :=
  EStep.nextS ho hg hd hdn hx nx hσ hp (by rw [hdec]; exact hk)

set_option maxRecDepth 8000 in
theorem decLow {s : ByteArray} {i : Nat} (hi : i < s.size) (h : (s.data.toList.getD i 0).toNat < 128) : Utf8.decode s i = ((s.data.toList.getD i 0).toNat, 1) := by
  have e : (s.get! i).toNat = (s.data.toList.getD i 0).toNat := by
    have hi' : i < s.data.size := hi
    rw [List.getD_eq_getElem?_getD, Array.getElem?_toList, Array.getElem?_eq_getElem hi']
    have e2 : s.get! i = s.data[i]'hi' := by
      cases s with
      | mk d => show d[i]! = d[i]'hi'; rw [Array.getElem!_eq_getD, Array.getD_eq_getD_getElem?, Array.getElem?_eq_getElem hi']; rfl
    rw [e2]; rfl
  unfold Utf8.decode
  simp only [Nat.add_zero]
  have hc : (s.get! i).toNat < 0x80 := by rw [e]; exact h
  rw [if_pos hc, e]
set_option maxRecDepth 8000 in
theorem decHigh {s : ByteArray} {i : Nat} (hi : i < s.size) (h : 128 ≤ (s.data.toList.getD i 0).toNat) : 128 ≤ (Utf8.decode s i).1 := by
  have e : (s.get! i).toNat = (s.data.toList.getD i 0).toNat := by
    have hi' : i < s.data.size := hi
    rw [List.getD_eq_getElem?_getD, Array.getElem?_toList, Array.getElem?_eq_getElem hi']
    have e2 : s.get! i = s.data[i]'hi' := by
      cases s with
      | mk d => show d[i]! = d[i]'hi'; rw [Array.getElem!_eq_getD, Array.getD_eq_getD_getElem?, Array.getElem?_eq_getElem hi']; rfl
    rw [e2]; rfl
  unfold Utf8.decode
  simp only [Nat.add_zero]
  have hc : ¬ (s.get! i).toNat < 0x80 := by rw [e]; exact Nat.not_lt.2 h
  rw [if_neg hc]
  simp only [Utf8.runeError]
  split
  · split
    · rename_i h1; exact h1
    · show 128 ≤ 65533; omega
  · split
    · split
      · rename_i h1; simp only [ge_iff_le, Bool.and_eq_true, decide_eq_true_eq] at h1; show 128 ≤ _; exact Nat.le_trans (by omega) h1.1
      · show 128 ≤ 65533; omega
    · split
      · split
        · rename_i h1; simp only [ge_iff_le, Bool.and_eq_true, decide_eq_true_eq] at h1; show 128 ≤ _; exact Nat.le_trans (by omega) h1.1
        · show 128 ≤ 65533; omega
      · show 128 ≤ 65533; omega
end Go.Ab
