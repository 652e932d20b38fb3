/- Rules that Align needs: entries of maps, variables that are made again and again, what is told in weaker words.  Growing arrays whose elements change: a nil slice, append, a store into a part of an element.  Small rules: a value told otherwise, conversions, arguments told more closely, an array that is built. No statement is proved here. -/
import Derived.Test.YtekfpcgagoidcaaGreatDoorU3
import Derived.Test.YtekfpcgagoidcaaGreatDoorU7
import Derived.Test.YtekfpcgagoidcaaGreatDoorU10
import Derived.Test.YtekfpcgagoidcaaGreatDoorU13
set_option linter.unusedVariables false
set_option linter.unusedSimpArgs false
namespace Go.Ab
theorem EStep.allocArrV {P : Program} {T : Tab} {n : Nat} {ops : Array Oper} {o : Oper} {env : Env} {σ : Store} {k : Env → Store → Prop} (hT : T.Ok P) {t : TypeId} {d l sz ver : Nat} {es0 : List (List AV)} {li : LI} {cs : List AV} (ho : o.op = .alloc t) (hg : o.guard = none) (hd : o.dst = some d) (hdn : (decide (d < n)) = true) (hl : T.get t = some li) (hf : forceL (li.zero.map Z.av) = some cs) (hsz : decide (li.zero.length = sz ∧ 0 < sz) = true)
 (hσ : σ[l]? = some (.arr sz ver es0)) (hk : k (env.put d (.eptr l sz 0 0 (ver + 1))) (σ.set l (.arr sz (ver + 1) [cs]))) : EStep P n ops o k env σ := by
 refine EStep.plain hg fun G a w hr => ?_
 have hl := LOk.of (hT.get hl)
 have hzl := (of_decide_eq_true hsz).1
 have hrun : (execOp a.eval o).run P w = .ok (.value (.pointer (some ⟨w.heap.size, 0, none⟩))) (w.alloc (.cells li.zeroVal.cells t)) := by
  simp [execOp, ho, Instr.alloc, newVar, newRow, hl.run_zero w]
 have hcells : li.zeroVal.cells = (li.zero.map Z.val).toArray := by
  unfold LI.zeroVal
  cases ha : li.lt.isAgg with
  | true => rfl
  | false =>
    obtain ⟨z, hz⟩ := hl.one ha
    rw [hz]
    cases z <;> rfl
 unfold OWP
 rw [hrun]
 have hcs : cs = li.zero.map Z.av := (forceL_eq hf).symm
 obtain ⟨ob, cap, hB, _, _⟩ := arr_at hr.st hσ
 have hm := mem_lt hr.st.memok
 have hls : l < G.B.length := by
  rcases zAa l G.B.length with h | h
  · exact h
  · simp [zA1 h] at hB
 have hgl : GB.Le (.own ob cap ver) (.own (some w.heap.size) 1 (ver + 1)) := .inr ⟨_, _, _, rfl, by omega⟩
 have hal := hr.st.alloc (o := .cells li.zeroVal.cells t) (g := .own (some w.heap.size) 1 (ver + 1)) (ao := .arr sz (ver + 1) [cs]) rfl (.arr w.heap.size 1 sz (ver + 1) [cs] li.zeroVal.cells t (0, 0) (by rw [heap_alloc, if_pos rfl]) (by intro o _; simp) (by rw [hcells]; simp [hzl]) (by simp) (fun e he => by
  simp at he; subst he; rw [hcs]; simp [hzl]) (fun i j e c h1 h2 => by
  match i, h1 with
  | 0, h1 =>
    simp at h1; subst h1
    rw [hcs] at h2
    simp only [zAb, zA3] at h2
    obtain ⟨z, hz, rfl⟩ := h2
    rw [hcells]
    have : (li.zero.map Z.val).toArray.getD (0 * sz + j) undef = z.val := by simp [hz, zA4]
    rw [this]; cases z <;> first | exact .prim _ | exact .nils | exact .imapz
  | i + 1, h1 => simp at h1) (hm _ (zAo _)).1)
 have hs : SRel { G with M := G.M, B := G.B.set l (.own (some w.heap.size) 1 (ver + 1)) } (σ.set l (.arr sz (ver + 1) [cs])) (w.alloc (.cells li.zeroVal.cells t)) := by
  refine hr.st.regrow (w' := w.alloc (.cells li.zeroVal.cells t)) hB (Mem.Le.refl _) hgl rfl (by simp) (fun k hk hk2 => by rw [heap_alloc, if_neg (by omega)]) rfl (fun b hb o => rfl) hal.memok (.inr (zAo _)) (by simp) OutR.r ?_
  refine .arr w.heap.size 1 sz (ver + 1) [cs] li.zeroVal.cells t (0, 0) (by rw [heap_alloc, if_pos rfl]) (by intro o _; simp) (by rw [hcells]; simp [hzl]) (by simp) (fun e he => by
   simp at he; subst he; rw [hcs]; simp [hzl]) (fun i j e c h1 h2 => ?_) (hm _ (zAo _)).1
  match i, h1 with
  | 0, h1 =>
    simp at h1; subst h1
    rw [hcs] at h2
    simp only [zAb, zA3] at h2
    obtain ⟨z, hz, rfl⟩ := h2
    rw [hcells]
    have : (li.zero.map Z.val).toArray.getD (0 * sz + j) undef = z.val := by simp [hz, zA4]
    rw [this]; cases z <;> first | exact .prim _ | exact .nils | exact .imapz
  | i + 1, h1 => simp at h1
 have hle : BLe G.B (G.B.set l (.own (some w.heap.size) 1 (ver + 1))) := by
  intro l' g1 h1
  by_cases e : l = l'
  · subst e
    rw [hB] at h1; simp at h1; subst h1
    exact ⟨_, by rw [zAj hls], hgl⟩
  · exact ⟨g1, by rw [zAq e]; exact h1, GB.Le.refl _⟩
 refine ⟨_, _, _, hk, .upB hle, ?_⟩
 rw [hd]
 have hr' : ARel n { G with B := G.B.set l (.own (some w.heap.size) 1 (ver + 1)) } env (σ.set l (.arr sz (ver + 1) [cs])) a (w.alloc (.cells li.zeroVal.cells t)) := hr.later (.upB hle) hs
 refine hr'.put (of_decide_eq_true hdn) ?_
 exact .eptr l sz 0 0 (ver + 1) w.heap.size 0 ⟨some w.heap.size, 1, ver + 1, by rw [zAj hls], zAo _, fun _ => ⟨by omega, (of_decide_eq_true hsz).2, by simp, rfl⟩⟩
section
variable {P : Program} {n : Nat} {ops : Array Oper} {o : Oper} {env : Env} {σ : Store} {T : Tab} {k : Env → Store → Prop}
theorem PRun.ent {v v' : AV} (h : PRun P o env σ v) (he : ∀ M B x, VRel M B v x → VRel M B v' x) : PRun P o env σ v' := fun G a w hs hv =>
 uponQ_mono (fun _ _ ⟨x, G', h1, h2, h3, h4⟩ => ⟨x, G', h1, he _ _ _ h2, h3, h4⟩) (h G a w hs hv)
def posOf {κ α : Type} [DecidableEq κ] : List (κ × α) → κ → Nat
 | [], _ => 0
 | p :: r, key => if p.1 = key then 0 else posOf r key + 1
theorem findIdx_pos {κ α : Type} [DecidableEq κ] (key : κ) : ∀ al : List (κ × α), (al.map (·.1)).findIdx? (fun x => decide (x = key)) = (if (lk al key).isSome then some (posOf al key) else none) ∧ ((lk al key).isSome = true → ∃ v, lk al key = some v ∧ al[posOf al key]? = some (key, v)) ∧ ((lk al key).isSome = false → posOf al key = al.length)
 | [] => ⟨rfl, (fun h => nomatch h), fun _ => rfl⟩
 | (k', v') :: r => by
   obtain ⟨h1, h2, h3⟩ := findIdx_pos key r
   simp only [zBk, zD0, lk, posOf]
   by_cases e : k' = key
   · subst e; simp
   · simp only [e, if_false, decide_false, zAy]
     refine ⟨?_, fun h => ?_, fun h => ?_⟩
     · rw [h1]; split <;> rfl
     · obtain ⟨v, h4, h5⟩ := h2 h
       exact ⟨v, h4, by simpa using h5⟩
     · rw [h3 h]; rfl
theorem EStep.mapEnt {κ α : Type} [DecidableEq κ] {ek : κ → Value} {ev : α → AV} {t kt et : TypeId} {m x : Operand} {d l : Nat} {al : List (κ × α)} {key : κ} {v0 : α} {uk : AV} {s1 b1 : Nat} {z : List Z} {le : LI}
 (K : KeyLaw P kt ek) (hl : LOk P t ⟨.map kt et, s1, b1, z⟩) (he : LOk P et le) (ho : o.op = .mapEntry t m x) (hg : o.guard = none) (hd : o.dst = some d) (hdn : decide (d < n) = true) (hm : Rd env m (.map l)) (hσ : σ[l]? = some (.map (encM ek ev al)))
 (hx : Rd env x uk) (hex : exactV uk = some (ek key)) (hz : ∀ (G : Gh) (w : World), SRel G σ w → VRel G.M G.B (ev v0) le.zeroVal)
 (hk : k (env.put d (.tup [ev ((lk al key).getD v0), .int (posOf al key)])) (σ.set l (.map (encM ek ev (if (lk al key).isSome then al else al ++ [(key, v0)]))))) : EStep P n ops o k env σ := by
 refine EStep.plain hg fun G a w hr => ?_
 have h1 := hr.rd hm
 have h2 := exactV_spec hex (hr.rd hx)
 have hzv := hz G w hr.st
 generalize hA : a.eval m = ym at h1
 cases h1 with
 | map _ b hb =>
   have hobj := hr.st.objs l _ _ hb hσ
   cases hobj with
   | map _ _ es clock hbb hlen hkk hrr hmm hst =>
     have hlt := (hr.st.fresh l _ b hb rfl).2
     rw [encM_length] at hlen
     have hkeys : es.toList.map (·.key) = (al.map (·.1)).map ek := by
      apply zCc
      intro i
      rw [zAb, zD3, zAb, zBm]
      rcases zAa i es.size with h | h
      · have h' : i < al.length := by omega
        rw [zAz h, zA9 h']
        simp only [zBb, Function.comp]
        congr 1
        exact hkk i (ek al[i].1) (ev al[i].2) _ (by simp [encM, zAb, zA9 h']) (zAz h)
      · rw [zAv h, zA1 (by omega)]; rfl
     have hfind := K.find w key es.toList _ hkeys
     have hold : ∀ (i : Nat) p e, al[i]? = some p → es[i]? = some e → e.key = ek p.1 ∧ VRel G.M G.B (ev p.2) e.val := fun i p e h4 h5 =>
      ⟨hkk i _ (ev p.2) e (by simp [encM, h4]) h5, hrr i (ek p.1) _ e (by simp [encM, h4]) h5⟩
     have step : ∀ (es' : Array MapEntry) (clock' : Nat) (al' : List (κ × α)) (v : AV) (y : Value) (i : Nat), (execOp a.eval o).run P w = .ok (.value (.tuple #[y, goInt (i : Int)])) { w with heap := w.heap.setIfInBounds b (.map es' clock') } →
      es'.size = al'.length → (clock' = es'.size ∧ ∀ (i : Nat) (e : MapEntry), es'[i]? = some e → e.born = i) → (∀ (i : Nat) p e, al'[i]? = some p → es'[i]? = some e → e.key = ek p.1 ∧ VRel G.M G.B (ev p.2) e.val) → VRel G.M G.B v y →
      k (env.put d (.tup [v, .int i])) (σ.set l (.map (encM ek ev al'))) →
      uponQ P o a (fun a' w' => ∃ env' σ' G', k env' σ' ∧ G.Le G' ∧ ARel n G' env' σ' a' w') ((execOp a.eval o).run P w) := by
      intro es' clock' al' v y i hrun hsz hst' hrel hvy hk'
      rw [hrun]
      have hs := hr.st.upd (o' := .map (encM ek ev al')) (w' := { w with heap := w.heap.setIfInBounds b (.map es' clock') }) hb rfl (by simp) (fun k hk => by rw [heap_set w b _ hlt, if_neg hk])
       (.map b _ es' clock' (by rw [heap_set w b _ hlt, if_pos rfl]) (by rw [encM_length]; exact hsz) (fun i k' v' e h4 h5 => by
        obtain ⟨p, h6, rfl, rfl⟩ := encM_get h4; exact (hrel i p e h6 h5).1) (fun i k' v' e h4 h5 => by
        obtain ⟨p, h6, rfl, rfl⟩ := encM_get h4; exact (hrel i p e h6 h5).2) hmm hst')
       ⟨mem_of_notcell hr.st.memok hbb (by intros; simp), hmm⟩ OutR.r
      refine ⟨_, _, G, hk', Gh.Le.refl G, ?_⟩
      have hr' : ARel n G env (σ.set l (.map (encM ek ev al'))) a { w with heap := w.heap.setIfInBounds b (.map es' clock') } := ⟨hr.size, hr.defers, hr.vals, hs⟩
      rw [hd]
      exact hr'.put (of_decide_eq_true hdn) (.tup _ _ rfl fun i c hi => by
       match i, hi with
       | 0, hi => simp at hi; subst hi; exact hvy
       | 1, hi => simp at hi; subst hi; exact .prim _
       | i + 2, hi => simp at hi)
     obtain ⟨p1, p2, p3⟩ := findIdx_pos key al
     unfold OWP
     cases hf : (lk al key).isSome with
     | false =>
       rw [hf] at p1 hk
       simp only [zAy, if_false] at p1 hk
       rw [p1] at hfind
       have hno : lk al key = none := by cases h : lk al key with | none => rfl | some v => rw [h] at hf; cases hf
       rw [hno, Option.getD_none, p3 hf, ← hlen, ← hst.1] at hk
       refine step (es.push { key := ek key, val := le.zeroVal, born := clock }) (clock + 1) _ _ le.zeroVal clock ?_ (by simp [hlen]) ⟨by simp [hst.1], fun i e he => ?_⟩ ?_ hzv hk
       · simp only [execOp, ho, hA, h2, Instr.mapEntry]
         simp [hl.mapT w, getObj, setObj, Sem.run, hbb, K.check, hfind]
         simp [he.run_zero w, hbb, goInt]
       · rw [zCh] at he
         split at he
         · rename_i hi
           simp at he; subst he; rw [hi]; exact hst.1
         · exact hst.2 i e he
       · intro i p e h4 h5
         rw [zCh] at h5
         split at h5
         · rename_i hi
           simp at h5; subst h5
           rw [zAc (by omega), hi, hlen] at h4
           simp at h4; subst h4
           exact ⟨rfl, hzv⟩
         · rename_i hi
           have : i < es.size := by
            rcases zAa i es.size with h | h
            · exact h
            · simp [zAv h] at h5
           rw [zA6 (by omega)] at h4
           exact hold i p e h4 h5
     | true =>
       rw [hf] at p1 hk
       simp only [if_true] at p1 hk
       obtain ⟨v, hv, hp⟩ := p2 hf
       rw [hv, zBq] at hk
       rw [p1] at hfind
       have hpl : posOf al key < al.length := by
        rcases zAa (posOf al key) al.length with h | h
        · exact h
        · rw [zA1 h] at hp; cases hp
       have hjs : posOf al key < es.size := by omega
       obtain ⟨o1, o2⟩ := hold _ _ es[posOf al key] hp (zAz hjs)
       have hborn := hst.2 _ _ (zAz hjs)
       refine step (es.modify (posOf al key) fun e => { e with key := ek key }) clock al _ es[posOf al key].val (posOf al key) ?_ (by simp [hlen]) ⟨by simp [hst.1], fun i e he => ?_⟩ ?_ o2 hk
       · simp only [execOp, ho, hA, h2, Instr.mapEntry]
         have e1 : (Option.bind (some (posOf al key)) fun i => (es.toList[i]?).map fun e => (i, e.val)) = some (posOf al key, es[posOf al key].val) := by simp [hjs]
         rw [e1] at hfind
         simp [hl.mapT w, getObj, setObj, Sem.run, hbb, K.check, hfind, hjs, o1, K.stays, hborn, goInt]
       · rw [zBe] at he
         split at he
         · simp only [zA3] at he
           obtain ⟨e0, h1, rfl⟩ := he
           exact hst.2 i e0 h1
         · exact hst.2 i e he
       · intro i p e h4 h5
         rw [zBe] at h5
         by_cases hij : posOf al key = i
         · subst hij
           rw [hp] at h4
           simp at h4; subst h4
           simp [hjs] at h5; subst h5
           exact ⟨rfl, o2⟩
         · rw [if_neg hij] at h5
           exact hold i p e h4 h5
theorem EStep.entStore {κ α : Type} {ek : κ → Value} {ev : α → AV} {t : TypeId} {m s y : Operand} {l i : Nat} {al : List (κ × α)} {key : κ} {v1 v : α}
 (ho : o.op = .entryStore t m s y) (hg : o.guard = none) (hdn : dstOk n o = true) (hm : Rd env m (.map l)) (hσ : σ[l]? = some (.map (encM ek ev al))) (hs : Rd env s (.int i)) (hi : al[i]? = some (key, v1)) (hy : Rd env y (ev v))
 (hk : k (env.putO o.dst .any) (σ.set l (.map (encM ek ev (al.set i (key, v)))))) : EStep P n ops o k env σ := by
 refine EStep.plain hg fun G a w hr => ?_
 have h1 := hr.rd hm
 have h2 := VRel.prim_eq (hr.rd hs)
 have h3 := hr.rd hy
 generalize hA : a.eval m = ym at h1
 cases h1 with
 | map _ b hb =>
   have hobj := hr.st.objs l _ _ hb hσ
   cases hobj with
   | map _ _ es clock hbb hlen hkk hrr hmm hst =>
     have hlt := (hr.st.fresh l _ b hb rfl).2
     rw [encM_length] at hlen
     have hold : ∀ (i : Nat) p e, al[i]? = some p → es[i]? = some e → e.key = ek p.1 ∧ VRel G.M G.B (ev p.2) e.val := fun i p e h4 h5 =>
      ⟨hkk i _ (ev p.2) e (by simp [encM, h4]) h5, hrr i (ek p.1) _ e (by simp [encM, h4]) h5⟩
     have hil : i < al.length := by
      rcases zAa i al.length with h | h
      · exact h
      · rw [zA1 h] at hi; cases hi
     have his : i < es.size := by omega
     obtain ⟨o1, o2⟩ := hold _ _ es[i] hi (zAz his)
     have hfind : es.findIdx? (fun e => decide ((e.born : Int) = (i : Int))) = some i := by
      rw [Array.findIdx?_eq_some_iff_getElem]
      refine ⟨his, ?_, fun j hj => ?_⟩
      · have := hst.2 i _ (zAz his)
        simp [this]
      · have := hst.2 j _ (zAz (show j < es.size by omega))
        simp [this]; omega
     have hrun : (execOp a.eval o).run P w = .ok .skip { w with heap := w.heap.setIfInBounds b (.map (es.modify i fun e => { e with val := a.eval y }) clock) } := by
      simp only [execOp, ho, hA, h2, Instr.entryStore]
      simp only [BEq.beq] at *
      simp [getObj, setObj, Sem.run, hbb, asInt, asIntOf, hfind]
     unfold OWP
     rw [hrun]
     have hs := hr.st.upd (o' := .map (encM ek ev (al.set i (key, v)))) (w' := { w with heap := w.heap.setIfInBounds b (.map (es.modify i fun e => { e with val := a.eval y }) clock) }) hb rfl (by simp) (fun k hk => by rw [heap_set w b _ hlt, if_neg hk])
      (.map b _ (es.modify i fun e => { e with val := a.eval y }) clock (by rw [heap_set w b _ hlt, if_pos rfl]) (by rw [encM_length]; simp [hlen]) (fun i' k' v' e h4 h5 => by
       obtain ⟨p, h6, rfl, rfl⟩ := encM_get h4
       rw [zBe] at h5
       by_cases hij : i = i'
       · subst hij
         rw [zAj hil] at h6
         simp at h6; subst h6
         simp [his] at h5; subst h5
         exact o1
       · rw [if_neg hij] at h5
         rw [zAq hij] at h6
         exact (hold i' p e h6 h5).1) (fun i' k' v' e h4 h5 => by
       obtain ⟨p, h6, rfl, rfl⟩ := encM_get h4
       rw [zBe] at h5
       by_cases hij : i = i'
       · subst hij
         rw [zAj hil] at h6
         simp at h6; subst h6
         simp [his] at h5; subst h5
         exact h3
       · rw [if_neg hij] at h5
         rw [zAq hij] at h6
         exact (hold i' p e h6 h5).2) hmm ⟨by simp [hst.1], fun j e he => by
          rw [zBe] at he
          split at he
          · simp only [zA3] at he
            obtain ⟨e0, h1, rfl⟩ := he
            exact hst.2 j e0 h1
          · exact hst.2 j e he⟩)
      ⟨mem_of_notcell hr.st.memok hbb (by intros; simp), hmm⟩ OutR.r
     refine ⟨_, _, G, hk, Gh.Le.refl G, ?_⟩
     have hr' : ARel n G env (σ.set l (.map (encM ek ev (al.set i (key, v))))) a { w with heap := w.heap.setIfInBounds b (.map (es.modify i fun e => { e with val := a.eval y }) clock) } := ⟨hr.size, hr.defers, hr.vals, hs⟩
     exact hr'.putO (dstOk_spec hdn) (.any _)
theorem AWP.mapWeak {c : Code} {K : Exit → Env → Store → Prop} {κ α β : Type} {ek : κ → Value} {ev : α → AV} {ev' : β → AV} {al : List (κ × α)} (l : Nat) (f : α → β) (hσ : σ[l]? = some (.map (encM ek ev al))) (hf : ∀ a M B x, VRel M B (ev a) x → VRel M B (ev' (f a)) x)
 (h : AWP P n c K env (σ.set l (.map (encM ek ev' (al.map fun p => (p.1, f p.2)))))) : AWP P n c K env σ := by
 intro G a w hr
 have hs := SRel.retell (o' := .map (encM ek ev' (al.map fun p => (p.1, f p.2)))) hr.st hσ fun g hg ho => by
  cases ho with
  | map b _ es clock hbb hlen hkk hrr hmm hst =>
    refine .map b _ es clock hbb (by rw [encM_length] at hlen ⊢; simpa using hlen) (fun i k v e h1 h2 => ?_) (fun i k v e h1 h2 => ?_) hmm hst
    · obtain ⟨p, h6, rfl, rfl⟩ := encM_get h1
      rw [zAb, zA3] at h6
      obtain ⟨q, h7, rfl⟩ := h6
      exact hkk i _ (ev q.2) e (by simp [encM, h7]) h2
    · obtain ⟨p, h6, rfl, rfl⟩ := encM_get h1
      rw [zAb, zA3] at h6
      obtain ⟨q, h7, rfl⟩ := h6
      exact hf _ _ _ _ (hrr i (ek q.1) (ev q.2) e (by simp [encM, h7]) h2)
 exact h G a w ⟨hr.size, hr.defers, hr.vals, hs⟩
theorem AWP.arrNilV {c : Code} {K : Exit → Env → Store → Prop} {v i sz : Nat} {cs : List AV} (hv : σ[v]? = some (.var cs)) (hi : cs[i]? = some .nils)
 (hk : AWP P n c K env (σ.set v (.var (cs.set i (.sl sz [] (.own σ.length)))) ++ [.arr sz 0 []])) : AWP P n c K env σ := by
 refine AWP.ownNilV (sz := sz) hv hi ?_
 intro G a w hr
 have hlen : (σ.set v (.var (cs.set i (.sl sz [] (.own σ.length))))).length = σ.length := by simp
 have hs : SRel G (σ.set v (.var (cs.set i (.sl sz [] (.own σ.length)))) ++ [.arr sz 0 []]) w := by
  have := SRel.retell (l := σ.length) (o := .own sz 0) (o' := .arr sz 0 []) hr.st (by rw [zAc (by rw [hlen]; exact zAo _), hlen]; simp) (fun g hg ho => by
   cases ho with
   | ownz => exact .arrz sz 0
   | own b cap _ _ c T fr hb hf hl hn hm => exact .arr b cap sz 0 [] c T fr hb hf hl (Nat.zero_le _) (fun e he => by cases he) (fun i j e a h1 => by simp at h1) fun o => hm o (by omega))
  rw [List.set_append_right _ _ (by rw [hlen]; exact zAo _), hlen] at this
  simpa using this
 exact hk G a w ⟨hr.size, hr.defers, hr.vals, hs⟩
def frzA (l sz ver : Nat) (es : List (List AV)) : AV → AV
 | .sla l' sz' off len ver' => if l' = l ∧ sz' = sz ∧ off = 0 ∧ len = es.length ∧ ver' = ver then .sl sz es .no else .sla l' sz' off len ver'
 | v => v
def frzAO (l sz ver : Nat) (es : List (List AV)) : AObj → AObj
 | .var cs => .var (cs.map (frzA l sz ver es))
 | o => o
theorem AWP.freezeAV {c : Code} {K : Exit → Env → Store → Prop} {l sz ver : Nat} {es : List (List AV)} (hσ : σ[l]? = some (.arr sz ver es))
 (hpure : ∀ e ∈ es, ∀ a ∈ e, ∀ M B x, VRel M B a x → VRel M [] a x) (h : AWP P n c K (fun i => frzA l sz ver es (env i)) ((σ.set l .dead).map (frzAO l sz ver es))) : AWP P n c K env σ := by
 intro G a w hr
 obtain ⟨ob, cap, hB, hne, hob⟩ := arr_at hr.st hσ
 have hlt : l < σ.length := by
  rcases zAa l σ.length with h | h
  · exact h
  · simp [zA1 h] at hσ
 have dead : ∀ (M' : Mem), G.M.Le M' → (∀ b, (∀ b0, ob = some b0 → b ≠ b0) → (∀ o, M'.cell b o = G.M.cell b o) ∧ M'.map b = G.M.map b) → MemOk M' w → SRel { G with M := M' } (σ.set l .dead) w := fun M' hle hoth hok => by
  have hown : ∀ b0, ob = some b0 → ¬ G.w0.prot b0 ∧ ∀ (l' : Nat) (g : GB), G.B[l']? = some g → g.block = some b0 → l' = l := fun b0 e => by
   subst e
   exact ⟨(hr.st.fresh l _ b0 hB rfl).1, fun l' g h1 h2 => hr.st.inj l' l g _ b0 h1 hB h2 rfl⟩
  refine ⟨hok, fun b hb => ?_, hr.st.base, by simp [hr.st.len], fun l' g' o' h1 h2 => ?_, hr.st.fresh, hr.st.inj, hr.st.out, ⟨fun p hp => ?_, hr.st.dfr.2⟩⟩
  · have := hoth b fun b0 e eb => (hown b0 e).1 (eb ▸ hb)
    have h0 := hr.st.m0 b hb
    exact ⟨fun o => (this.1 o).trans (h0.1 o), this.2.trans h0.2⟩
  · by_cases hll : l = l'
    · subst hll
      rw [zAj hlt] at h2
      simp at h2; subst h2; exact .dead _
    · rw [zAq hll] at h2
      refine (hr.st.objs l' g' o' h1 h2).grow hle (BLe.refl _) (fun _ _ => rfl) fun b hb => hoth b fun b0 e eb => ?_
      subst eb
      exact hll ((hown b e).2 l' g' h1 hb).symm
  · obtain ⟨k1, k2, k3, k4, k5⟩ := hr.st.dfr.1 p hp
    have := hoth p.1 fun b0 e eb => by
     subst e
     exact k3 l _ hB (by rw [eb]; rfl)
    exact ⟨k1, k2, k3, fun o => (this.1 o).trans (k4 o), this.2.trans k5⟩
 have fin : ∀ (M' : Mem), G.M.Le M' → SRel { G with M := M' } (σ.set l .dead) w → (∀ (X : Value), VRel M' G.B (.sla l sz 0 es.length ver) X → VRel M' G.B (.sl sz es .no) X) → c.wpIn (FR G.R) 0 P (fun x a' w' => ∃ env' σ' G', K x env' σ' ∧ G.Le G' ∧ ARel n G' env' σ' a' w') a w := fun M' hle hs hv => by
  have hf : ∀ u x, VRel M' G.B u x → VRel M' G.B (frzA l sz ver es u) x := by
   intro u x h1
   cases u <;> simp only [frzA] <;> try exact h1
   split
   · rename_i e
     obtain ⟨rfl, rfl, rfl, rfl, rfl⟩ := e
     exact hv _ h1
   · exact h1
  have hO : ∀ g o, ORel M' G.B w g o → ORel M' G.B w g (frzAO l sz ver es o) := by
   intro g o ho
   cases ho with
   | var b' cs c T fr hb2 hf2 hl2 hr2 hm2 =>
     refine .var b' _ c T fr hb2 hf2 (by simpa using hl2) ?_ hm2
     intro i a hi
     simp only [zAb, zA3] at hi
     obtain ⟨a', h7, rfl⟩ := hi
     exact hf _ _ (hr2 i a' h7)
   | ownz => exact .ownz _
   | own b' cap sz n c T fr h1 h2 h3 h4 h5 => exact .own b' cap _ _ c T fr h1 h2 h3 h4 h5
   | arrz => exact .arrz _ _
   | arr b' cap sz ver es' c T fr h1 h2 h3 h4 h5 h6 h7 => exact .arr b' cap _ _ _ c T fr h1 h2 h3 h4 h5 h6 h7
   | map b' kvs es' clock h1 h2 h3 h4 h5 h6 => exact .map b' _ es' clock h1 h2 h3 h4 h5 h6
   | siter b' s pos h1 => exact .siter b' _ _ h1
   | loop b' r E h1 h2 => exact .loop b' _ _ h1 h2
   | dead => exact .dead _
  have hs' : SRel { G with M := M' } ((σ.set l .dead).map (frzAO l sz ver es)) w := SRel.mapO hs _ hO
  refine wpIn_mono (h { G with M := M' } a w ⟨hr.size, hr.defers, fun i => hf _ _ ((hr.vals i).mono hle (BLe.refl _)), hs'⟩) ?_
  rintro x a' w' ⟨e, s, G', h1, h2, h3⟩
  exact ⟨e, s, G', h1, Gh.Le.trans (G' := { G with M := M' }) (.upM hle) h2, h3⟩
 by_cases hes : es = []
 · subst hes
   exact fin G.M (Mem.Le.refl _) (dead G.M (Mem.Le.refl _) (fun _ _ => ⟨fun _ => rfl, rfl⟩) hr.st.memok) fun X hX => by
    cases hX with
    | sla _ _ _ _ _ ad cc hq => exact .slzz sz ad cc
 · obtain ⟨b, rfl⟩ := hne hes
   obtain ⟨cs, T', fr, hbb, hf, hlen, hn, hz, hrel, hm⟩ := hob b rfl
   have hlen0 : es.length ≠ 0 := fun e => hes (zB0 e)
   have hle := Mem.le_addBlk (M := G.M) (b := b) cs hm
   refine fin (G.M.addBlk b cs) hle (dead _ hle (fun b' hb' => ?_) ?_) fun X hX => ?_
   · have := hb' b rfl
     exact ⟨fun o => by simp only [Mem.addBlk, if_neg this], rfl⟩
   · refine ⟨fun b' o v hv => ?_, hr.st.memok.m, hr.st.memok.g.mono hle⟩
     simp only [Mem.addBlk] at hv
     split at hv
     · rename_i e; subst e
       simp only [World.cell?, hbb]; exact hv
     · exact hr.st.memok.c _ _ _ hv
   · cases hX with
     | sla _ _ _ _ _ ad cc hq =>
       obtain ⟨ob', cap', n', g1, g2, g3⟩ := hq
       rw [hB] at g1; simp at g1
       obtain ⟨rfl, rfl, rfl⟩ := g1
       obtain ⟨g4, g5⟩ := g3 rfl
       rcases g5 with g5 | ⟨rfl, rfl⟩
       · exact absurd g5 hlen0
       simp only [zBb, zDd, Nat.sub_zero]
       refine .sl sz es .no b 0 _ (fun i j => cs.getD (i * sz + j) undef) hz (fun i j hi hj => ?_) (fun i j e a he ha => ?_) hn trivial
       · have h1 := mul_lt (zBz hi hn) hj
         have h2 : i * sz + j < cs.size := by rw [hlen]; exact h1
         simp only [Mem.addBlk, if_pos rfl, zBp]
         simp [h2]
       · exact hpure e (zAk he) a (zAk ha) _ _ _ ((hrel i j e a he ha).mono hle (BLe.refl _))
end
end Go.Ab
namespace Go.Ab
section
variable {P : Program} {n : Nat} {ops : Array Oper} {o : Oper} {env : Env} {σ : Store} {T : Tab} {k : Env → Store → Prop}
theorem AWP.arrNil {c : Code} {K : Exit → Env → Store → Prop} {d : Nat} (sz : Nat) (hd : env d = .nils) (hk : AWP P n c K (env.put d (.sl sz [] (.own σ.length))) (σ ++ [.arr sz 0 []])) : AWP P n c K env σ := by
 intro G a w hr
 have hl : (G.B ++ [GB.own none 0 0])[σ.length]? = some (.own none 0 0) := by rw [← hr.st.len]; simp
 have hs0 := hr.st.ownNil sz
 have hs : SRel { G with B := G.B ++ [.own none 0 0] } (σ ++ [.arr sz 0 []]) w := by
  have := SRel.retell (l := σ.length) (o := .own sz 0) (o' := .arr sz 0 []) hs0 (by simp) (fun g hg _ => by
   rw [hl] at hg; simp at hg; subst hg; exact .arrz sz 0)
  simpa using this
 have hr' : ARel n { G with B := G.B ++ [.own none 0 0] } (env.put d (.sl sz [] (.own σ.length))) (σ ++ [.arr sz 0 []]) a w := by
  refine ⟨hr.size, hr.defers, fun i => ?_, hs⟩
  simp only [Env.put]
  split
  · rename_i e; subst e
    have h2 := hr.vals i
    rw [hd] at h2
    generalize a.tmps.getD i undef = X at h2 ⊢
    cases h2
    exact .slz sz _ ⟨none, 0, 0, hl, zAo _, fun _ => ⟨rfl, rfl⟩⟩
  · exact (hr.vals i).mono (Mem.Le.refl _) (BLe.append _ _)
 refine wpIn_mono (hk { G with B := G.B ++ [.own none 0 0] } a w hr') ?_
 rintro x a' w' ⟨e', s', G', h1, h2, h3⟩
 exact ⟨e', s', G', h1, Gh.Le.trans (G' := { G with B := G.B ++ [.own none 0 0] }) (.upB (BLe.append _ _)) h2, h3⟩
theorem EStep.appendArr (hT : T.Ok P) {s x : Operand} {t tx e : TypeId} {d l sz ver : Nat} {es es2 : List (List AV)} {u S : AV} {s1 b1 : Nat} {z : List Z} {le : LI} (ho : o.op = .call { callee := .builtin .append, args := #[s, x], argTypes := #[t, tx] })
 (hg : o.guard = none) (hd : o.dst = some d) (hdn : d < n) (hs : Rd env s S) (hS0 : S = .sla l sz 0 es.length ver ∧ es ≠ [] ∨ S = .sl sz [] (.own l) ∧ es = [] ∧ ver = 0) (hσ : σ[l]? = some (.arr sz ver es)) (hx : Rd env x u) (hsrc : AppSrc T tx sz u es2) (hpos : 0 < es2.length)
 (hl : LOk P t ⟨.slice e, s1, b1, z⟩) (he : LOk P e le) (hsz : le.size = sz) (hz0 : le.zero.length = le.size) (hbound : (es.length + es2.length) * le.bytes ≤ 140737488355328) (hb2 : es.length + es2.length ≤ 9223372036854775807)
 (hk : k (env.put d (.sla l sz 0 (es.length + es2.length) (ver + 1))) (σ.set l (.arr sz (ver + 1) (es ++ es2)))) : EStep P n ops o k env σ := by
 refine EStep.plain hg fun G a w hr => ?_
 have h1 := hr.rd hs
 obtain ⟨news, hS, hN⟩ := hsrc.src hT hr.st.memok (hr.rd hx)
 generalize hA : a.eval s = sv at h1
 obtain ⟨i, hi1, hi2, hi3, hi4⟩ := he.info
 have hund := hl.undSlice
 have hS' : Src P i.size tx (a.eval x) es2.length news w := by rw [hi2, hsz]; exact hS
 have hNs : news.length = es2.length * sz := by have := hN.1; simpa using this
 obtain ⟨ob, cap, hB, hne, hob⟩ := arr_at hr.st hσ
 have hobj := hr.st.objs l _ _ hB hσ
 have hsv : sv = .slice (ob.map fun b => ⟨b, 0, none⟩) es.length cap := by
  rcases hS0 with ⟨rfl, hn⟩ | ⟨rfl, rfl, rfl⟩
  · cases h1 with
    | sla _ _ _ _ _ a c hr =>
      obtain ⟨ob', cap', n', g1, g2, g3⟩ := hr
      rw [hB] at g1; simp at g1
      obtain ⟨rfl, rfl, rfl⟩ := g1
      obtain ⟨g4, g5⟩ := g3 rfl
      rcases g5 with g5 | ⟨rfl, rfl⟩
      · exact absurd (zB0 g5) hn
      · simp
  · cases h1 with
    | sl _ _ _ b off cap' f hz hm hr' hc ht =>
      obtain ⟨ob', cp, n', g1, g2, g3⟩ := ht
      rw [hB] at g1; simp at g1
      obtain ⟨rfl, rfl, rfl⟩ := g1
      obtain ⟨g4, g5⟩ := g3 rfl
      cases ob with
      | none => simp at g4
      | some b' =>
        simp at g4
        obtain ⟨rfl, rfl⟩ := g4
        subst g5; rfl
    | slz _ _ ht =>
      obtain ⟨ob', cp, n', g1, g2, g3⟩ := ht
      rw [hB] at g1; simp at g1
      obtain ⟨rfl, rfl, rfl⟩ := g1
      obtain ⟨g4, g5⟩ := g3 rfl
      cases ob with
      | none => subst g5; rfl
      | some b' => simp at g4
 subst hsv
 have hgle : ∀ b' c', (GB.own ob cap ver).Le (.own b' c' (ver + 1)) := fun b' c' => .inr ⟨_, _, _, rfl, zBn _⟩
 have hlB : l < G.B.length := by
  rcases zAa l G.B.length with h' | h'
  · exact h'
  · simp [zA1 h'] at hB
 have hzc : le.zeroVal.cells.size = sz := by
  unfold LI.zeroVal
  cases ha : le.lt.isAgg with
  | true => simp [Value.cells, hz0, hsz]
  | false =>
    obtain ⟨z', hz'⟩ := he.one ha
    rw [hz'] at hz0 ⊢
    simp at hz0
    rw [← hsz, ← hz0]
    cases z' <;> rfl
 -- the end: the new place
 have fin : ∀ (b c' : Nat) (w' : World), SRel { G with B := G.B.set l (.own (some b) c' (ver + 1)) } (σ.set l (.arr sz (ver + 1) (es ++ es2))) w' → es.length + es2.length ≤ c' →
  ∃ env' σ' G', k env' σ' ∧ G.Le G' ∧ ARel n G' env' σ' (a.put o.dst (.slice (some ⟨b, 0, none⟩) (es.length + es2.length) c')) w' := fun b c' w' hs2 hle => by
  have hG : G.Le { G with B := G.B.set l (.own (some b) c' (ver + 1)) } := .upB (BLe.set hB (hgle _ _))
  refine ⟨_, _, _, hk, hG, ?_⟩
  rw [hd]
  have hr' : ARel n { G with B := G.B.set l (.own (some b) c' (ver + 1)) } env (σ.set l (.arr sz (ver + 1) (es ++ es2))) a w' := hr.later hG hs2
  exact hr'.put hdn (.sla _ sz 0 _ (ver + 1) _ _ ⟨some b, c', ver + 1, by rw [zAj hlB], zAo _, fun _ => ⟨by omega, .inr ⟨by omega, by simp⟩⟩⟩)
 have hzall : ∀ b, ob = some b → ∀ x ∈ es ++ es2, x.length = sz := fun b hb x hx => by
  obtain ⟨c, T', fr, _, _, _, _, hz, _, _⟩ := hob b hb
  exact (zBv.1 hx).elim (hz x) (hN.2.1 x)
 by_cases hroom : es.length + es2.length ≤ cap
 · cases ob with
   | none =>
     exfalso
     cases hobj with
     | arrz => simp only [zAg] at hroom; omega
   | some b =>
     obtain ⟨c, T', fr, hb, hf, hlc, hn, hz, hrel, hm⟩ := hob b rfl
     have hcs : (es.length + es2.length) * sz ≤ c.size := by rw [hlc]; exact zB8 _ hroom
     rw [zB7] at hcs
     obtain ⟨w', c', r1, r2, r3, r4, r5, r6, rout⟩ := run_storeCells (P := P) (b := b) (off := es.length * sz) (T := T') (fr := fr) news 0 c w hb hf hS.one (by omega)
     have hrun := run_append_room' (P := P) w w' t tx o.type e i hund hi1 b 0 es.length cap (a.eval x) es2.length news hS' hroom (by rw [hi2, hsz, zBp]; exact r1)
     have hrun2 : (execOp a.eval o).run P w = .ok (.value (.slice (some ⟨b, 0, none⟩) (es.length + es2.length) cap)) w' := by simp [execOp, ho, resolve, invoke, builtin, hA, hrun]
     unfold OWP
     rw [hrun2]
     simp only [zC3] at r6
     have hmapb : G.M.map b = none := mem_of_notmap hr.st.memok hb (by intros; simp)
     have hok : MemOk G.M w' := by
      refine ⟨fun b2 o v hv => ?_, fun b2 es' hb2' => ?_, hr.st.memok.g⟩
      · have hne2 : b2 ≠ b := fun e2 => by subst e2; rw [hm o] at hv; cases hv
        have h2 := hr.st.memok.1 _ _ _ hv
        simp only [World.cell?] at h2 ⊢
        rw [r3 _ hne2]; exact h2
      · have hne2 : b2 ≠ b := fun e2 => by subst e2; rw [hmapb] at hb2'; cases hb2'
        obtain ⟨cl, h2⟩ := hr.st.memok.2 _ _ hb2'
        exact ⟨cl, by rw [r3 _ hne2]; exact h2⟩
     have hblt := (hr.st.fresh l _ b hB rfl).2
     refine fin b cap w' ?_ hroom
     refine hr.st.regrow (M' := G.M) hB (Mem.Le.refl _) (hgle _ _) rfl (by omega) (fun k hk _ => r3 k hk) rfl (fun _ _ _ => rfl) hok (.inl rfl) (by omega) rout ?_
     refine .arr b cap sz (ver + 1) (es ++ es2) c' T' fr r4 (by rw [r5]; exact hf) (by rw [r5, hlc]) (by simpa using hroom) (hzall b rfl) (fun i j x v hi hj => ?_) hm
     have hxl : x.length = sz := hzall b rfl x (zAk hi)
     have hjs : j < sz := by
      have := (zAw.1 hj).1
      omega
     rw [r6]
     rcases zAa i es.length with h | h
     · rw [zA6 h] at hi
       rw [if_neg (by have := mul_lt h hjs; omega)]
       exact (hrel i j x v hi hj).mono (Mem.Le.refl _) (BLe.set hB (hgle _ _))
     · rw [zAc h] at hi
       have hi2' : i - es.length < es2.length := (zAw.1 hi).1
       have e1 : i * sz + j = es.length * sz + ((i - es.length) * sz + j) := by
        rw [← zC4, ← zB7]; congr 2; omega
       have hlt := mul_lt hi2' hjs
       rw [e1, if_pos ⟨by omega, by rw [hNs]; omega⟩, zC0]
       have := hN.2.2 _ j x v hi hj
       have e2 : news.toArray.getD ((i - es.length) * sz + j) undef = news.getD ((i - es.length) * sz + j) undef := by simp [List.getD]
       rw [e2] at this
       exact this.mono (Mem.Le.refl _) (BLe.nil _)
 · -- a new row
   have holds : ∃ olds : List Value, olds.length = es.length * sz ∧ (Builtin.firstCells i.size es.length (.slice (ob.map fun b => ⟨b, 0, none⟩) es.length cap)).run P w.drew = .ok olds.toArray w.drew ∧
    (∀ x ∈ es, x.length = sz) ∧ ∀ (i j : Nat) (x : List AV) (v : AV), es[i]? = some x → x[j]? = some v → VRel G.M G.B v (olds.getD (i * sz + j) undef) := by
    cases ob with
    | none =>
      have : es = [] := by
       rcases es with _ | ⟨x, es⟩
       · rfl
       · obtain ⟨b, hb⟩ := hne (by simp); cases hb
      subst this
      exact ⟨[], by simp, rfl, by simp, fun i j x v h => by simp at h⟩
    | some b =>
      obtain ⟨c, T', fr, hb, hf, hlc, hn, hz, hrel, hm⟩ := hob b rfl
      have hcs : es.length * sz ≤ c.size := by rw [hlc]; exact zB8 _ hn
      refine ⟨(List.range (es.length * sz)).map fun k => c.getD k undef, by simp, ?_, hz, fun i j x v hi hj => ?_⟩
      · have := run_loadCells_list (P := P) w.drew ⟨b, 0, none⟩ ((List.range (es.length * sz)).map fun k => c.getD k undef) (fun j v hj => by
         simp only [zAb, zA3] at hj
         obtain ⟨k, hk, rfl⟩ := hj
         have hj2 := (zAw.1 hk).1
         simp at hj2
         have hk2 : k = j := by have := (zAw.1 hk).2; simpa using this.symm
         subst hk2
         have h3 : k < c.size := by omega
         show (World.cell? w.drew _) = _
         have hb' : w.drew.heap[b]? = some (.cells c T' fr) := hb
         simp [World.cell?, addr_add, hb', h3])
        simp only [zCq, List.length_range] at this
        simp only [Option.map, Builtin.firstCells, hi2, hsz]
        exact this
      · have := hrel i j x v hi hj
        have hxl := hz x (zAk hi)
        have hjs : j < sz := by
         have := (zAw.1 hj).1
         omega
        have hlt := mul_lt (zAw.1 hi).1 hjs
        have e2 : ((List.range (es.length * sz)).map fun k => c.getD k undef).getD (i * sz + j) undef = c.getD (i * sz + j) undef := by
         simp [List.getD, hlt]
        rw [e2]; exact this
   obtain ⟨olds, hOs, hold, hz, hrel⟩ := holds
   have hlt : cap < es.length + es2.length := by omega
   have hrun := run_append_grow_src (P := P) w t tx o.type e i le.zeroVal hund hi1 (by rw [hi4]; rfl) (ob.map fun b => ⟨b, 0, none⟩) es.length cap olds hold (a.eval x) es2.length news hS' hlt (by omega) (growslice_fits hlt (by rw [hi3]; exact hbound))
   have hcapge : es.length + es2.length ≤ grownCap w (es.length + es2.length) cap e := by unfold grownCap Question.cut; exact Nat.le_add_right _ _
   generalize hrow : ((olds ++ news).toArray ++ Builtin.zeroCells le.zeroVal.cells (grownCap w (es.length + es2.length) cap e - (es.length + es2.length))) = row at hrun
   have hrowsz : row.size = grownCap w (es.length + es2.length) cap e * sz := by
    rw [← hrow]
    simp only [Array.size_append, zCd, zD1, size_zeroCells, hzc, hOs, hNs, ← zB7]
    congr 1; omega
   have hrun2 : (execOp a.eval o).run P w = .ok (.value (.slice (some ⟨w.heap.size, 0, none⟩) (es.length + es2.length) (grownCap w (es.length + es2.length) cap e))) (w.drew.alloc (.cells row e)) := by
    simp [execOp, ho, resolve, invoke, builtin, hA, hrun]
   unfold OWP
   rw [hrun2]
   have row1 : ∀ o, o < es.length * sz → row.getD o undef = olds.getD o undef := by
    intro o ho
    rw [← hrow]
    simp only [zA4, zDb]
    rw [zAr (by simp; omega)]
    simp only [zBx]
    rw [zA6 (by omega)]; simp [List.getD]
   have row2 : ∀ o, o < es2.length * sz → row.getD (es.length * sz + o) undef = news.toArray.getD o undef := by
    intro o ho
    rw [← hrow]
    simp only [zA4, zDb]
    rw [zAr (by simp; omega)]
    simp only [zBx]
    rw [zAc (by omega), hOs, zC0]
   have hm0 := mem_lt hr.st.memok _ (zAo w.heap.size)
   have hheap : (w.drew.alloc (.cells row e)).heap[w.heap.size]? = some (.cells row e) := by rw [heap_alloc]; simp
   have hok : MemOk G.M (w.drew.alloc (.cells row e)) := by
    refine ⟨fun b o v hv => ?_, fun b es' hb => ?_, hr.st.memok.g⟩
    · have h2 := hr.st.memok.1 _ _ _ hv
      have hlt2 := World.block_lt_of_cell? _ _ h2
      have : (w.drew.alloc (.cells row e)).cell? ⟨b, o, none⟩ = w.drew.cell? ⟨b, o, none⟩ := World.cell?_alloc_lt _ _ _ hlt2
      rw [this]; exact h2
    · obtain ⟨cl, h2⟩ := hr.st.memok.2 _ _ hb
      refine ⟨cl, ?_⟩
      rw [heap_alloc]
      split
      · rename_i eb; subst eb; simp at h2
      · exact h2
   refine fin w.heap.size _ _ ?_ hcapge
   refine hr.st.regrow (M' := G.M) hB (Mem.Le.refl _) (hgle _ _) rfl (by simp) (fun k hk hk2 => by rw [heap_alloc]; simp [Nat.ne_of_lt hk2]; rfl) rfl (fun _ _ _ => rfl) hok (.inr (zAo _)) (by simp) OutR.r ?_
   refine .arr w.heap.size _ sz (ver + 1) (es ++ es2) row e (0, 0) hheap (by intro o _; simp) hrowsz (by simpa using hcapge) (fun x hx => (zBv.1 hx).elim (hz x) (hN.2.1 x)) (fun i j x v hi hj => ?_) hm0.1
   have hxl : x.length = sz := (zBv.1 (zAk hi)).elim (hz x) (hN.2.1 x)
   have hjs : j < sz := by
    have := (zAw.1 hj).1
    omega
   rcases zAa i es.length with h | h
   · rw [zA6 h] at hi
     rw [row1 _ (mul_lt h hjs)]
     exact (hrel i j x v hi hj).mono (Mem.Le.refl _) (BLe.set hB (hgle _ _))
   · rw [zAc h] at hi
     have hi2' : i - es.length < es2.length := (zAw.1 hi).1
     have e1 : i * sz + j = es.length * sz + ((i - es.length) * sz + j) := by
      rw [← zC4, ← zB7]; congr 2; omega
     rw [e1, row2 _ (mul_lt hi2' hjs)]
     exact (hN.2.2 _ j x v hi hj).mono (Mem.Le.refl _) (BLe.nil _)
end
end Go.Ab
namespace Go.Ab
theorem PRun.eq {P : Program} {o : Oper} {env : Env} {σ : Store} {v v' : AV} (h : PRun P o env σ v) (e : v = v') : PRun P o env σ v' := e ▸ h
def buildAF (T : Tab) (env : Env) (t : TypeId) (parts : List (Nat × Operand)) : Option AV := match T.get t, partsF env parts with
 | some ⟨.arr _ e, _, _, zs⟩, some ps => match T.get e with
   | some le => match fillA (fun i => some (i * le.size, le.size)) (zs.map Z.av) ps with
     | some r => (forceL r).map .agg
     | none => none
   | none => none
 | _, _ => none
theorem PRun.buildAW {P : Program} {T : Tab} {o : Oper} {env : Env} {σ : Store} (hT : T.Ok P) {t : TypeId} {parts : Array (Nat × Operand)} {r : AV} (ho : o.op = .build t parts) (h : buildAF T env t parts.toList = some r) (hn : rdns env (parts.toList.map (·.2))) : PRun P o env σ r := by
 unfold buildAF at h
 split at h
 · rename_i nn e s b zs ps hg hp
   split at h
   · rename_i le he
     split at h
     · rename_i r' hf
       simp only [zA3] at h
       obtain ⟨r2, h2, rfl⟩ := h
       rw [← forceL_eq h2]
       exact PRun.buildA ho (LOk.of (hT.get hg)) (LOk.of (hT.get he)) hp hn hf
     · simp at h
   · simp at h
 · simp at h
end Go.Ab
