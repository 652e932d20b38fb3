/- Function values that are handed in. -/
import Derived.Test.YtjjlckhdgnoopaaAb11
namespace Go.Ab

def Env.initX (ks : List Nat) (avs : List AV) : Env := fun i => if ks.contains i then .ext (avs.getD i .any) else avs.getD i .any

theorem PCall.bodyX {P : Program} {f : FuncId} {fn : Func} {c : Code} {n : Nat} {avs : List AV} {r : AV} (ks : List Nat) (hf : P.funcs[f]? = some fn) (hb : fn.body = some c) (hnm : (fn.name == "runtime.NumGoroutine") = false)
    (hn : fn.ntmps = n) (hle' : decide (avs.length ≤ n) = true) (hres : allTmp fn.results.toList = true) (h : AWP P n c (retK fn.results.toList r) (Env.initX ks avs) []) : PCall P f avs r := by
  refine PCall.body hf hb hnm hn hle' hres ?_
  intro G a w hr
  -- at the beginning the call has no objects of its own
  have hB : G.B = [] := List.length_eq_zero_iff.1 hr.st.len
  refine h G a w ⟨hr.size, hr.defers, fun i => ?_, hr.st⟩
  have h1 := hr.vals i
  simp only [Env.initX, Env.init] at h1 ⊢
  split
  · rw [hB] at h1; exact .ext _ _ h1
  · exact h1

section
variable {P : Program} {o : Oper} {env : Env} {σ : Store}
/-- A call of a function value that was handed in. -/
theorem PRun.callV {fo : Operand} {args : Array Operand} {Ts : Array TypeId} {fv : AV} {avs : List AV} {r : AV} (h : FnCall P fv avs r)
    (ho : o.op = .call { callee := .value fo, args := args, argTypes := Ts }) (hf : rdv env fo = some (.ext fv)) (nf : rdn env fo)
    (ha : (args.toList.map fun x => unb 4 (envOp env x).st) = avs) (hn : rdns env args.toList) : PRun P o env σ r := by
  obtain ⟨k, first, caps, rfl, hc⟩ := h
  intro G a w hs hv
  have h1 := rd (Rd.w hf nf) (by simp [ho, Op.operands, Call.operands]) hv
  generalize hA : a.eval fo = y at h1
  cases h1 with
  | ext _ _ h1 =>
  cases h1 with
  | fn _ _ _ vf vc hvf hvc h2 h3 =>
    have hrun : (execOp a.eval o).run P w = .ok (.enter k (vf ++ args.map a.eval ++ vc)) w := by
      simp only [execOp, ho, resolve, hA, Deferred.ofValue, Sem.run_bind, Sem.run_pure, Result.andThen_ok, invoke]
      exact run_callFunc hc.1 _ w
    unfold Oper.wp
    rw [hrun]
    simp only [Oper.upon]
    have hargs : ArgsRel G.M (first ++ avs ++ caps) (vf ++ args.map a.eval ++ vc) := by
      subst ha
      have hl := hvf
      have hl2 := hvc
      refine ⟨by simp [hl, hl2], fun i c hi => ?_⟩
      simp only [List.append_assoc] at hi
      rcases Nat.lt_or_ge i vf.size with hlt | hge
      · rw [List.getElem?_append_left (by simpa [← hl] using hlt)] at hi
        have := h2 i c hi
        have e : (vf ++ args.map a.eval ++ vc).getD i undef = vf.getD i undef := by
          simp only [Array.getD_eq_getD_getElem?]
          rw [Array.append_assoc, Array.getElem?_append_left hlt]
        rw [e]; exact this
      · rw [List.getElem?_append_right (by simpa [← hl] using hge)] at hi
        simp only [← hl] at hi
        rcases Nat.lt_or_ge (i - vf.size) args.size with hlt2 | hge2
        · rw [List.getElem?_append_left (by simpa using hlt2)] at hi
          simp only [List.getElem?_map, Option.map_eq_some_iff] at hi
          obtain ⟨x, hx, rfl⟩ := hi
          have hxm : x ∈ args.toList := List.mem_of_getElem? hx
          have := rd ((rdns_needs hn).rd x hxm) (by simp [ho, Op.operands, Call.operands]; right; simpa using hxm) hv
          have e : (vf ++ args.map a.eval ++ vc).getD i undef = a.eval x := by
            simp only [Array.getD_eq_getD_getElem?]
            rw [Array.append_assoc, Array.getElem?_append_right hge, Array.getElem?_append_left (by simpa using hlt2)]
            simp only [Array.getElem?_toList] at hx
            simp [hx]
          rw [e]; exact unb_rel 4 _ _ this
        · rw [List.getElem?_append_right (by simpa using hge2)] at hi
          simp only [List.length_map, Array.length_toList] at hi
          have := h3 _ c hi
          have e : (vf ++ args.map a.eval ++ vc).getD i undef = vc.getD (i - vf.size - args.size) undef := by
            simp only [Array.getD_eq_getD_getElem?]
            rw [Array.append_assoc, Array.getElem?_append_right hge, Array.getElem?_append_right (by simpa using hge2)]
            simp
          rw [e]; exact this
    refine (hc.2 G.M w _ hs.memok hargs).mono ?_
    rintro e w' ⟨v, M', rfl, hr, hp⟩
    exact ⟨v, { G with M := M' }, rfl, hr.mono (Mem.Le.refl _) (BLe.nil _), ⟨rfl, rfl, hp.le, BLe.refl _⟩, hs.after hp⟩
end
end Go.Ab
