/- Growing arrays whose elements change: a nil slice, append, a store into a part of an element.  Rules: an array that grows and changes, objects numbered ahead, drawn regions with effects; slices that are told without their array. No statement is proved here. -/
import Derived.Test.YtficfljjnbnhbaaGreatDoorP4
import Derived.Test.YtficfljjnbnhbaaGreatDoorP11
import Derived.Test.YtficfljjnbnhbaaGreatDoorP22
import Derived.Test.YtficfljjnbnhbaaGreatDoorP24
set_option linter.unusedVariables false
set_option linter.unusedSimpArgs false
namespace Go.Ab
section
variable {P : Program} {n : Nat} {ops : Array Oper} {o : Oper} {env : Env} {σ : Store} {T : Tab} {k : Env → Store → Prop}
theorem AWP.arrNil {c : Code} {K : Exit → Env → Store → Prop} {d : Nat} (sz : Nat) (hd : env d = .nils) (hk : AWP P n c K (env.put d (.sl sz [] (.own σ.length))) (σ ++ [.arr sz 0 []])) : AWP P n c K env σ := by
 intro G a w hr
 have hl : (G.B ++ [GB.own none 0 0])[σ.length]? = some (.own none 0 0) := by rw [← hr.st.len]; simp
 have hs0 := hr.st.ownNil sz
 have hs : SRel { G with B := G.B ++ [.own none 0 0] } (σ ++ [.arr sz 0 []]) w := by
  have := SRel.retell (l := σ.length) (o := .own sz 0) (o' := .arr sz 0 []) hs0 (by simp) (fun g hg _ => by
   rw [hl] at hg; simp at hg; subst hg; exact .arrz sz 0)
  simpa using this
 have hr' : ARel n { G with B := G.B ++ [.own none 0 0] } (env.put d (.sl sz [] (.own σ.length))) (σ ++ [.arr sz 0 []]) a w := by
  refine ⟨hr.size, hr.defers, fun i => ?_, hs⟩
  simp only [Env.put]
  split
  · rename_i e; subst e
    have h2 := hr.vals i
    rw [hd] at h2
    generalize a.tmps.getD i undef = X at h2 ⊢
    cases h2
    exact .slz sz _ ⟨none, 0, 0, hl, zAw _, fun _ => ⟨rfl, rfl⟩⟩
  · exact (hr.vals i).mono (Mem.Le.refl _) (BLe.append _ _)
 refine wpIn_mono (hk { G with B := G.B ++ [.own none 0 0] } a w hr') ?_
 rintro x a' w' ⟨e', s', G', h1, h2, h3⟩
 exact ⟨e', s', G', h1, Gh.Le.trans (G' := { G with B := G.B ++ [.own none 0 0] }) (.upB (BLe.append _ _)) h2, h3⟩
theorem EStep.appendArr (hT : T.Ok P) {s x : Operand} {t tx e : TypeId} {d l sz ver : Nat} {es es2 : List (List AV)} {u S : AV} {s1 b1 : Nat} {z : List Z} {le : LI} (ho : o.op = .call { callee := .builtin .append, args := #[s, x], argTypes := #[t, tx] })
 (hg : o.guard = none) (hd : o.dst = some d) (hdn : d < n) (hs : Rd env s S) (hS0 : S = .sla l sz 0 es.length ver ∧ es ≠ [] ∨ S = .sl sz [] (.own l) ∧ es = [] ∧ ver = 0) (hσ : σ[l]? = some (.arr sz ver es)) (hx : Rd env x u) (hsrc : AppSrc T tx sz u es2) (hpos : 0 < es2.length)
 (hl : LOk P t ⟨.slice e, s1, b1, z⟩) (he : LOk P e le) (hsz : le.size = sz) (hz0 : le.zero.length = le.size) (hbound : (es.length + es2.length) * le.bytes ≤ 140737488355328) (hb2 : es.length + es2.length ≤ 9223372036854775807)
 (hk : k (env.put d (.sla l sz 0 (es.length + es2.length) (ver + 1))) (σ.set l (.arr sz (ver + 1) (es ++ es2)))) : EStep P n ops o k env σ := by
 refine EStep.plain hg fun G a w hr => ?_
 have h1 := hr.rd hs
 obtain ⟨news, hS, hN⟩ := hsrc.src hT hr.st.memok (hr.rd hx)
 generalize hA : a.eval s = sv at h1
 obtain ⟨i, hi1, hi2, hi3, hi4⟩ := he.info
 have hund := hl.undSlice
 have hS' : Src P i.size tx (a.eval x) es2.length news w := by rw [hi2, hsz]; exact hS
 have hNs : news.length = es2.length * sz := by have := hN.1; simpa using this
 obtain ⟨ob, cap, hB, hne, hob⟩ := arr_at hr.st hσ
 have hobj := hr.st.objs l _ _ hB hσ
 have hsv : sv = .slice (ob.map fun b => ⟨b, 0, none⟩) es.length cap := by
  rcases hS0 with ⟨rfl, hn⟩ | ⟨rfl, rfl, rfl⟩
  · cases h1 with
    | sla _ _ _ _ _ a c hr =>
      obtain ⟨ob', cap', n', g1, g2, g3⟩ := hr
      rw [hB] at g1; simp at g1
      obtain ⟨rfl, rfl, rfl⟩ := g1
      obtain ⟨g4, g5⟩ := g3 rfl
      rcases g5 with g5 | ⟨rfl, rfl⟩
      · exact absurd (zB0 g5) hn
      · simp
  · cases h1 with
    | sl _ _ _ b off cap' f hz hm hr' hc ht =>
      obtain ⟨ob', cp, n', g1, g2, g3⟩ := ht
      rw [hB] at g1; simp at g1
      obtain ⟨rfl, rfl, rfl⟩ := g1
      obtain ⟨g4, g5⟩ := g3 rfl
      cases ob with
      | none => simp at g4
      | some b' =>
        simp at g4
        obtain ⟨rfl, rfl⟩ := g4
        subst g5; rfl
    | slz _ _ ht =>
      obtain ⟨ob', cp, n', g1, g2, g3⟩ := ht
      rw [hB] at g1; simp at g1
      obtain ⟨rfl, rfl, rfl⟩ := g1
      obtain ⟨g4, g5⟩ := g3 rfl
      cases ob with
      | none => subst g5; rfl
      | some b' => simp at g4
 subst hsv
 have hgle : ∀ b' c', (GB.own ob cap ver).Le (.own b' c' (ver + 1)) := fun b' c' => .inr ⟨_, _, _, rfl, Nat.lt_succ_self _⟩
 have hlB : l < G.B.length := by
  rcases zA9 l G.B.length with h' | h'
  · exact h'
  · simp [zA2 h'] at hB
 have hzc : le.zeroVal.cells.size = sz := by
  unfold LI.zeroVal
  cases ha : le.lt.isAgg with
  | true => simp [Value.cells, hz0, hsz]
  | false =>
    obtain ⟨z', hz'⟩ := he.one ha
    rw [hz'] at hz0 ⊢
    simp at hz0
    rw [← hsz, ← hz0]
    cases z' <;> rfl
 -- the end: the new place
 have fin : ∀ (b c' : Nat) (w' : World), SRel { G with B := G.B.set l (.own (some b) c' (ver + 1)) } (σ.set l (.arr sz (ver + 1) (es ++ es2))) w' → es.length + es2.length ≤ c' →
  ∃ env' σ' G', k env' σ' ∧ G.Le G' ∧ ARel n G' env' σ' (a.put o.dst (.slice (some ⟨b, 0, none⟩) (es.length + es2.length) c')) w' := fun b c' w' hs2 hle => by
  have hG : G.Le { G with B := G.B.set l (.own (some b) c' (ver + 1)) } := .upB (BLe.set hB (hgle _ _))
  refine ⟨_, _, _, hk, hG, ?_⟩
  rw [hd]
  have hr' : ARel n { G with B := G.B.set l (.own (some b) c' (ver + 1)) } env (σ.set l (.arr sz (ver + 1) (es ++ es2))) a w' := hr.later hG hs2
  exact hr'.put hdn (.sla _ sz 0 _ (ver + 1) _ _ ⟨some b, c', ver + 1, by rw [zAd hlB], zAw _, fun _ => ⟨by omega, .inr ⟨by omega, by simp⟩⟩⟩)
 have hzall : ∀ b, ob = some b → ∀ x ∈ es ++ es2, x.length = sz := fun b hb x hx => by
  obtain ⟨c, T', fr, _, _, _, _, hz, _, _⟩ := hob b hb
  exact (zB5.1 hx).elim (hz x) (hN.2.1 x)
 by_cases hroom : es.length + es2.length ≤ cap
 · cases ob with
   | none =>
     exfalso
     cases hobj with
     | arrz => simp only [zAb] at hroom; omega
   | some b =>
     obtain ⟨c, T', fr, hb, hf, hlc, hn, hz, hrel, hm⟩ := hob b rfl
     have hcs : (es.length + es2.length) * sz ≤ c.size := by rw [hlc]; exact zB9 _ hroom
     rw [zBf] at hcs
     obtain ⟨w', c', r1, r2, r3, r4, r5, r6, rout⟩ := run_storeCells (P := P) (b := b) (off := es.length * sz) (T := T') (fr := fr) news 0 c w hb hf hS.one (by omega)
     have hrun := run_append_room' (P := P) w w' t tx o.type e i hund hi1 b 0 es.length cap (a.eval x) es2.length news hS' hroom (by rw [hi2, hsz, zC3]; exact r1)
     have hrun2 : (execOp a.eval o).run P w = .ok (.value (.slice (some ⟨b, 0, none⟩) (es.length + es2.length) cap)) w' := by simp [execOp, ho, resolve, invoke, builtin, hA, hrun]
     unfold OWP
     rw [hrun2]
     simp only [zBy] at r6
     have hmapb : G.M.map b = none := mem_of_notmap hr.st.memok hb (by intros; simp)
     have hok : MemOk G.M w' := by
      refine ⟨fun b2 o v hv => ?_, fun b2 es' hb2' => ?_, hr.st.memok.g⟩
      · have hne2 : b2 ≠ b := fun e2 => by subst e2; rw [hm o] at hv; cases hv
        have h2 := hr.st.memok.1 _ _ _ hv
        simp only [World.cell?] at h2 ⊢
        rw [r3 _ hne2]; exact h2
      · have hne2 : b2 ≠ b := fun e2 => by subst e2; rw [hmapb] at hb2'; cases hb2'
        obtain ⟨cl, h2⟩ := hr.st.memok.2 _ _ hb2'
        exact ⟨cl, by rw [r3 _ hne2]; exact h2⟩
     have hblt := (hr.st.fresh l _ b hB rfl).2
     refine fin b cap w' ?_ hroom
     refine hr.st.regrow (M' := G.M) hB (Mem.Le.refl _) (hgle _ _) rfl (by omega) (fun k hk _ => r3 k hk) rfl (fun _ _ _ => rfl) hok (.inl rfl) (by omega) rout ?_
     refine .arr b cap sz (ver + 1) (es ++ es2) c' T' fr r4 (by rw [r5]; exact hf) (by rw [r5, hlc]) (by simpa using hroom) (hzall b rfl) (fun i j x v hi hj => ?_) hm
     have hxl : x.length = sz := hzall b rfl x (zAg hi)
     have hjs : j < sz := by
      have := (zAf.1 hj).1
      omega
     rw [r6]
     rcases zA9 i es.length with h | h
     · rw [zA3 h] at hi
       rw [if_neg (by have := mul_lt h hjs; omega)]
       exact (hrel i j x v hi hj).mono (Mem.Le.refl _) (BLe.set hB (hgle _ _))
     · rw [zA4 h] at hi
       have hi2' : i - es.length < es2.length := (zAf.1 hi).1
       have e1 : i * sz + j = es.length * sz + ((i - es.length) * sz + j) := by
        rw [← zC9, ← zBf]; congr 2; omega
       have hlt := mul_lt hi2' hjs
       rw [e1, if_pos ⟨by omega, by rw [hNs]; omega⟩, zCc]
       have := hN.2.2 _ j x v hi hj
       have e2 : news.toArray.getD ((i - es.length) * sz + j) undef = news.getD ((i - es.length) * sz + j) undef := by simp [List.getD]
       rw [e2] at this
       exact this.mono (Mem.Le.refl _) (BLe.nil _)
 · -- a new row
   have holds : ∃ olds : List Value, olds.length = es.length * sz ∧ (Builtin.firstCells i.size es.length (.slice (ob.map fun b => ⟨b, 0, none⟩) es.length cap)).run P w.drew = .ok olds.toArray w.drew ∧
    (∀ x ∈ es, x.length = sz) ∧ ∀ (i j : Nat) (x : List AV) (v : AV), es[i]? = some x → x[j]? = some v → VRel G.M G.B v (olds.getD (i * sz + j) undef) := by
    cases ob with
    | none =>
      have : es = [] := by
       rcases es with _ | ⟨x, es⟩
       · rfl
       · obtain ⟨b, hb⟩ := hne (by simp); cases hb
      subst this
      exact ⟨[], by simp, rfl, by simp, fun i j x v h => by simp at h⟩
    | some b =>
      obtain ⟨c, T', fr, hb, hf, hlc, hn, hz, hrel, hm⟩ := hob b rfl
      have hcs : es.length * sz ≤ c.size := by rw [hlc]; exact zB9 _ hn
      refine ⟨(List.range (es.length * sz)).map fun k => c.getD k undef, by simp, ?_, hz, fun i j x v hi hj => ?_⟩
      · have := run_loadCells_list (P := P) w.drew ⟨b, 0, none⟩ ((List.range (es.length * sz)).map fun k => c.getD k undef) (fun j v hj => by
         simp only [zAa, zA6] at hj
         obtain ⟨k, hk, rfl⟩ := hj
         have hj2 := (zAf.1 hk).1
         simp at hj2
         have hk2 : k = j := by have := (zAf.1 hk).2; simpa using this.symm
         subst hk2
         have h3 : k < c.size := by omega
         show (World.cell? w.drew _) = _
         have hb' : w.drew.heap[b]? = some (.cells c T' fr) := hb
         simp [World.cell?, addr_add, hb', h3])
        simp only [zBv, zDb] at this
        simp only [Option.map, Builtin.firstCells, hi2, hsz]
        exact this
      · have := hrel i j x v hi hj
        have hxl := hz x (zAg hi)
        have hjs : j < sz := by
         have := (zAf.1 hj).1
         omega
        have hlt := mul_lt (zAf.1 hi).1 hjs
        have e2 : ((List.range (es.length * sz)).map fun k => c.getD k undef).getD (i * sz + j) undef = c.getD (i * sz + j) undef := by
         simp [List.getD, hlt]
        rw [e2]; exact this
   obtain ⟨olds, hOs, hold, hz, hrel⟩ := holds
   have hlt : cap < es.length + es2.length := by omega
   have hrun := run_append_grow_src (P := P) w t tx o.type e i le.zeroVal hund hi1 (by rw [hi4]; rfl) (ob.map fun b => ⟨b, 0, none⟩) es.length cap olds hold (a.eval x) es2.length news hS' hlt (by omega) (growslice_fits hlt (by rw [hi3]; exact hbound))
   have hcapge : es.length + es2.length ≤ grownCap w (es.length + es2.length) cap e := by unfold grownCap Question.cut; exact Nat.le_add_right _ _
   generalize hrow : ((olds ++ news).toArray ++ Builtin.zeroCells le.zeroVal.cells (grownCap w (es.length + es2.length) cap e - (es.length + es2.length))) = row at hrun
   have hrowsz : row.size = grownCap w (es.length + es2.length) cap e * sz := by
    rw [← hrow]
    simp only [zDa, zCq, zCl, size_zeroCells, hzc, hOs, hNs, ← zBf]
    congr 1; omega
   have hrun2 : (execOp a.eval o).run P w = .ok (.value (.slice (some ⟨w.heap.size, 0, none⟩) (es.length + es2.length) (grownCap w (es.length + es2.length) cap e))) (w.drew.alloc (.cells row e)) := by
    simp [execOp, ho, resolve, invoke, builtin, hA, hrun]
   unfold OWP
   rw [hrun2]
   have row1 : ∀ o, o < es.length * sz → row.getD o undef = olds.getD o undef := by
    intro o ho
    rw [← hrow]
    simp only [zA1, zDi]
    rw [zAn (by simp; omega)]
    simp only [zC4]
    rw [zA3 (by omega)]; simp [List.getD]
   have row2 : ∀ o, o < es2.length * sz → row.getD (es.length * sz + o) undef = news.toArray.getD o undef := by
    intro o ho
    rw [← hrow]
    simp only [zA1, zDi]
    rw [zAn (by simp; omega)]
    simp only [zC4]
    rw [zA4 (by omega), hOs, zCc]
   have hm0 := mem_lt hr.st.memok _ (zAw w.heap.size)
   have hheap : (w.drew.alloc (.cells row e)).heap[w.heap.size]? = some (.cells row e) := by rw [heap_alloc]; simp
   have hok : MemOk G.M (w.drew.alloc (.cells row e)) := by
    refine ⟨fun b o v hv => ?_, fun b es' hb => ?_, hr.st.memok.g⟩
    · have h2 := hr.st.memok.1 _ _ _ hv
      have hlt2 := World.block_lt_of_cell? _ _ h2
      have : (w.drew.alloc (.cells row e)).cell? ⟨b, o, none⟩ = w.drew.cell? ⟨b, o, none⟩ := World.cell?_alloc_lt _ _ _ hlt2
      rw [this]; exact h2
    · obtain ⟨cl, h2⟩ := hr.st.memok.2 _ _ hb
      refine ⟨cl, ?_⟩
      rw [heap_alloc]
      split
      · rename_i eb; subst eb; simp at h2
      · exact h2
   refine fin w.heap.size _ _ ?_ hcapge
   refine hr.st.regrow (M' := G.M) hB (Mem.Le.refl _) (hgle _ _) rfl (by simp) (fun k hk hk2 => by rw [heap_alloc]; simp [Nat.ne_of_lt hk2]; rfl) rfl (fun _ _ _ => rfl) hok (.inr (zAw _)) (by simp) OutR.r ?_
   refine .arr w.heap.size _ sz (ver + 1) (es ++ es2) row e (0, 0) hheap (by intro o _; simp) hrowsz (by simpa using hcapge) (fun x hx => (zB5.1 hx).elim (hz x) (hN.2.1 x)) (fun i j x v hi hj => ?_) hm0.1
   have hxl : x.length = sz := (zB5.1 (zAg hi)).elim (hz x) (hN.2.1 x)
   have hjs : j < sz := by
    have := (zAf.1 hj).1
    omega
   rcases zA9 i es.length with h | h
   · rw [zA3 h] at hi
     rw [row1 _ (mul_lt h hjs)]
     exact (hrel i j x v hi hj).mono (Mem.Le.refl _) (BLe.set hB (hgle _ _))
   · rw [zA4 h] at hi
     have hi2' : i - es.length < es2.length := (zAf.1 hi).1
     have e1 : i * sz + j = es.length * sz + ((i - es.length) * sz + j) := by
      rw [← zC9, ← zBf]; congr 2; omega
     rw [e1, row2 _ (mul_lt hi2' hjs)]
     exact (hN.2.2 _ j x v hi hj).mono (Mem.Le.refl _) (BLe.nil _)
theorem EStep.storeEO (hT : T.Ok P) {t : TypeId} {x y : Operand} {l sz i off ver : Nat} {es : List (List AV)} {u u1 : AV} {li : LI} (ho : o.op = .store t x y) (hg : o.guard = none) (hx : rdv env x = some (.eptr l sz i off ver)) (nx : rdn env x)
 (hσ : σ[l]? = some (.arr sz ver es)) (hi : i < es.length) (hy : rdv env y = some u) (ny : rdn env y) (hc : cellsAV u = some [u1]) (hone : oneAV u1 = true) (hl : T.get t = some li) (hsz : li.size = 1) (hoff : off < sz) (hdn : dstOk n o = true)
 (hk : k (env.putO o.dst .any) (σ.set l (.arr sz ver (es.set i ((es.getD i []).set off u1))))) : EStep P n ops o k env σ := by
 refine EStep.plain hg fun G a w hr => ?_
 have h1 := hr.rd (Rd.w hx nx)
 generalize hA : a.eval x = X at h1
 obtain ⟨ob, cap, hB, hne, hob⟩ := arr_at hr.st hσ
 cases h1 with
 | eptr _ _ _ _ _ b q hrr =>
   obtain ⟨ob', cap', n', g1, g2, g3⟩ := hrr
   rw [hB] at g1; simp at g1
   obtain ⟨rfl, rfl, rfl⟩ := g1
   obtain ⟨g4, g5, rfl, rfl⟩ := g3 rfl
   obtain ⟨c, T', fr, hbb, hf, hlen, hn, hz, hrel, hm⟩ := hob b rfl
   have hlk := LOk.of (hT.get hl)
   have h2 := hr.rd (Rd.w hy ny)
   obtain ⟨h3, h4⟩ := cellsAV_rel hc h2
   simp at h3
   have hcap : i < cap := by omega
   have hfit : i * sz + off + 1 ≤ c.size := by
    rw [hlen]
    have := mul_lt hcap hoff
    omega
   obtain ⟨w', c', r1, r2, r3, r4, r5, r6, rout⟩ := run_storeCells (P := P) (b := b) (off := i * sz + off) (T := T') (fr := fr) (a.eval y).cells.toList 0 c w hbb hf (fun v hv => by
    obtain ⟨i, hi, rfl⟩ := zAq.1 hv
    have hi' : i = 0 := by simp [h3] at hi; omega
    subst hi'
    have := h4 0 u1 rfl
    have h6 := oneAV_rel hone this
    have hi2 : 0 < (a.eval y).cells.size := by omega
    simpa [hi2] using h6) (by simp only [zBp, h3]; omega)
   have hrun : (execOp a.eval o).run P w = .ok .skip w' := by
    simp only [execOp, ho, hA, Instr.storeAt, Instr.sureAddr, storeVar]
    simp [hlk.run_size w, h3, hsz, r1]
   unfold OWP
   rw [hrun]
   have hmm : G.M.map b = none := mem_of_notmap hr.st.memok hbb (by simp)
   have hei : es[i]? = some (es.getD i []) := by simp [List.getD, hi]
   have hs : SRel G (σ.set l (.arr sz ver (es.set i ((es.getD i []).set off u1)))) w' := by
    refine hr.st.upd hB rfl r2 r3 (.arr b cap sz ver _ c' T' fr r4 (by rw [r5]; exact hf) (by rw [r5]; exact hlen) (by simpa using hn) (fun e he => ?_) (fun i' j e av he hj => ?_) hm) ⟨hm, hmm⟩ rout
    · rcases zCy he with h | h
      · exact hz e h
      · rw [h, zDp]; exact hz _ (zAg hei)
    · have hjs : j < sz := by
       have hle : e.length = sz := by
        rcases zCy (zAg he) with h | h
        · exact hz e h
        · rw [h, zDp]; exact hz _ (zAg hei)
       have := (zAf.1 hj).1
       omega
      rw [r6 (i' * sz + j)]
      simp only [zBy, zBp, h3]
      by_cases hii : i = i'
      · subst hii
        rw [zAd hi] at he
        simp at he; subst he
        by_cases hjo : off = j
        · subst hjo
          rw [zAd (by have := hz _ (zAg hei); simp only [zCe] at this; omega)] at hj
          simp at hj; subst hj
          rw [if_pos ⟨by omega, by omega⟩]
          have := h4 0 _ rfl
          simpa using this
        · rw [zAk hjo] at hj
          rw [if_neg (by omega)]
          exact hrel i j _ av hei hj
      · rw [zAk hii] at he
        have hno : ¬ (i * sz + off ≤ i' * sz + j ∧ i' * sz + j < i * sz + off + 1) := by
         rintro ⟨q1, q2⟩
         rcases zA9 i i' with h | h
         · have := zB9 sz (show i + 1 ≤ i' from h)
           rw [zBf, zDh] at this; omega
         · have := zB9 sz (show i' + 1 ≤ i by omega)
           rw [zBf, zDh] at this; omega
        rw [if_neg hno]
        exact hrel i' j e av he hj
   have hr' : ARel n G env (σ.set l (.arr sz ver (es.set i ((es.getD i []).set off u1)))) a w' := ⟨hr.size, hr.defers, hr.vals, hs⟩
   exact ⟨_, _, G, hk, Gh.Le.refl G, hr'.putO (dstOk_spec hdn) (.any _)⟩
end
end Go.Ab
namespace Go.Ab
theorem EStep.appendArr' {P : Program} {n : Nat} {ops : Array Oper} {o : Oper} {env : Env} {σ : Store} {T : Tab} {k : Env → Store → Prop} (hT : T.Ok P) {s x : Operand} {t tx e : TypeId} {d l sz ver m : Nat} {es es2 es3 : List (List AV)} {u S : AV} {s1 b1 : Nat} {z : List Z} {le : LI} (ho : o.op = .call { callee := .builtin .append, args := #[s, x], argTypes := #[t, tx] })
 (hg : o.guard = none) (hd : o.dst = some d) (hdn : d < n) (hs : Rd env s S) (hS0 : S = .sla l sz 0 es.length ver ∧ es ≠ [] ∨ S = .sl sz [] (.own l) ∧ es = [] ∧ ver = 0) (hσ : σ[l]? = some (.arr sz ver es)) (hx : Rd env x u) (hsrc : AppSrc T tx sz u es2) (hpos : 0 < es2.length)
 (hl : LOk P t ⟨.slice e, s1, b1, z⟩) (he : LOk P e le) (hsz : le.size = sz) (hz0 : le.zero.length = le.size) (hbound : (es.length + es2.length) * le.bytes ≤ 140737488355328) (hb2 : es.length + es2.length ≤ 9223372036854775807) (hm : es.length + es2.length = m) (h3 : es ++ es2 = es3)
 (hk : k (env.put d (.sla l sz 0 m (ver + 1))) (σ.set l (.arr sz (ver + 1) es3))) : EStep P n ops o k env σ := by
 subst hm; subst h3
 exact EStep.appendArr hT ho hg hd hdn hs hS0 hσ hx hsrc hpos hl he hsz hz0 hbound hb2 hk
theorem AWP.drawYM {P : Program} {n : Nat} (eff : Oper → Bool) {id : Nat} {l : List Oper} {K : Exit → Env → Store → Prop} {env : Env} {σ : Store} (S : Nat → Store) (h0 : S 0 = σ)
 (hm : P.follows .mixedOrders = true) (hB : Region.lexB .any l.toArray = true) (hd : dstsOk n l.toArray = true) (hE : rngB .any l.toArray eff (loOf l eff) (hiOf l eff) (rankOf l eff) l.length 0 (Array.replicate l.length false) = true)
 (h : ∀ K' : Env → Nat → Prop, (∀ e j, K .normal e (S j) → K' e j) → YQ P n l.toArray S eff (loOf l eff) (hiOf l eff) (rankOf l eff) K' l 0 env 0) : AWP P n (.region id l.toArray true) K env σ := by
 subst h0
 intro G a w hr
 simp only [Region.lexB, zA0] at hB
 refine wpIn_region_any hm ?_
 have := yAny_lex (md := .any) l 0 (Array.replicate l.toArray.size false) env 0 (by simp) (by simpa using hE) (by simpa using hB.2) (h (fun e j => K .normal e (S j)) fun _ _ h => h)
 refine wpAny_of_yAny _ hd _ _ env 0 (by simpa using this) G a _ ⟨hr.size, hr.defers, hr.vals, hr.st.drew⟩ _ ?_
 intro G' env' j' a' w' hg hk hr'
 exact ⟨env', S j', G', hk, hg, hr'⟩
section
variable {P : Program} {n : Nat} {K : Exit → Env → Store → Prop} {env : Env}
theorem AWP.newOwns {c : Code} (sz : Nat) : ∀ (N : Nat) {σ : Store}, AWP P n c K env (σ ++ List.replicate N (.own sz 0)) → AWP P n c K env σ
 | 0, σ, h => by simpa using h
 | N + 1, σ, h => by
   refine AWP.newOwn sz (AWP.newOwns sz N ?_)
   rw [zAt]
   exact h
end
theorem VRel.unown {M : Mem} {B : List GB} {sz : Nat} {es : List (List AV)} {t : Tok} {x : Value} (h : VRel M B (.sl sz es t) x) : VRel M B (.sl sz es .no) x := by
 cases h with
 | sl _ _ _ b off cap f hz hm hr hc ht => exact .sl sz es .no b off cap f hz hm hr hc trivial
 | slz _ t ht => exact .slz sz .no trivial
 | slzz sz a cap => exact .slzz sz a cap
theorem AWP.unownV3 {P : Program} {n : Nat} {c : Code} {K : Exit → Env → Store → Prop} {env : Env} {σ : Store} (l : Nat) {s1 s2 s3 : Nat} {e1 e2 e3 : List (List AV)} {t1 t2 t3 : Tok} (hσ : σ[l]? = some (.var [.sl s1 e1 t1, .sl s2 e2 t2, .sl s3 e3 t3]))
 (hk : AWP P n c K env (σ.set l (.var [.sl s1 e1 .no, .sl s2 e2 .no, .sl s3 e3 .no]))) : AWP P n c K env σ := by
 refine AWP.varWeak l (cs' := [.sl s1 e1 .no, .sl s2 e2 .no, .sl s3 e3 .no]) hσ rfl (fun i u v hu hv => ?_) hk
 match i, hu, hv with
 | 0, hu, hv => cases hu; cases hv; exact fun _ _ _ h => VRel.unown h
 | 1, hu, hv => cases hu; cases hv; exact fun _ _ _ h => VRel.unown h
 | 2, hu, hv => cases hu; cases hv; exact fun _ _ _ h => VRel.unown h
 | i + 3, hu, hv => cases hu
theorem AWP.ownNilV3 {P : Program} {n : Nat} {c : Code} {K : Exit → Env → Store → Prop} {env : Env} {σ : Store} (l s1 s2 s3 : Nat) (hσ : σ[l]? = some (.var [.nils, .nils, .nils]))
 (hk : AWP P n c K env (σ.set l (.var [.sl s1 [] (.own σ.length), .sl s2 [] (.own (σ.length + 1)), .sl s3 [] (.own (σ.length + 2))]) ++ [.own s1 0, .own s2 0, .own s3 0])) : AWP P n c K env σ := by
 have hlt : l < σ.length := (zAf.1 hσ).1
 refine AWP.ownNilV (sz := s1) hσ (i := 0) rfl ?_
 refine AWP.ownNilV (v := l) (sz := s2) (i := 1) (cs := [.sl s1 [] (.own σ.length), .nils, .nils]) ?_ rfl ?_
 · rw [zA3 (by rw [zDp]; exact hlt), zAd hlt]; rfl
 refine AWP.ownNilV (v := l) (sz := s3) (i := 2) (cs := [.sl s1 [] (.own σ.length), .sl s2 [] (.own (σ.length + 1)), .nils]) ?_ rfl ?_
 · rw [zA3 (by simp; omega), zAd (by simp; omega)]
   simp
 have e : ∀ a b c : AObj, (((σ.set l a ++ [AObj.own s1 0]).set l b ++ [AObj.own s2 0]).set l c ++ [AObj.own s3 0]) = σ.set l c ++ [.own s1 0, .own s2 0, .own s3 0] := fun a b c => by
  have h1 : (σ.set l a ++ [AObj.own s1 0]).set l b = σ.set l b ++ [AObj.own s1 0] := by rw [zDe _ _ (by simpa using hlt), List.set_set]
  have h2 : (σ.set l b ++ [AObj.own s1 0] ++ [AObj.own s2 0]).set l c = σ.set l c ++ [AObj.own s1 0, AObj.own s2 0] := by
   rw [zAt, zDe _ _ (by simpa using hlt), List.set_set]; rfl
  rw [h1, h2, zAt]; rfl
 rw [e]
 simp only [zCl, zDp, zA5, zAb, List.set_cons_succ, List.set_cons_zero]
 exact hk
end Go.Ab
