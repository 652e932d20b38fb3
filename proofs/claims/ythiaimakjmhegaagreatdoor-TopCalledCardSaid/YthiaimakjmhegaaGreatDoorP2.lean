/- Parts of the proof. No statement is proved here. -/
import Derived.MapKept
import Derived.Test.YthiaimakjmhegaaGreatDoorP1
set_option linter.unusedVariables false
set_option linter.unusedSimpArgs false
set_option maxHeartbeats 16000000
set_option maxRecDepth 20000
/- Operations that make or change the call's own objects: box, alloc, store. -/
namespace Go.Ab
def cd:AV→Option (List AV)
 |.agg cs=>some cs
 |.prim (.agg _)=>none
 |.prim (.tuple _)=>none
 |.prim v=>some [.prim v]
 |.nils=>some [.nils]
 |.sl sz es t=>some [.sl sz es t]
 |.ptr l o=>some [.ptr l o]
 |.iptr cs=>some [.iptr cs]
 |.fn f a c=>some [.fn f a c]
 |.map l=>some [.map l]
 |.imap k=>some [.imap k]
 |.sla l sz off len ver=>some [.sla l sz off len ver]
 |.cm l sz i o ver=>some [.cm l sz i o ver]
 |.yld l=>some [.yld l]
 |.opq v=>some [.opq v]
 |_=>none
def eH:AV→Bool
 |.prim (.agg _)=>false
 |.prim (.tuple _)=>false
 |.prim _|.nils|.sl _ _ _|.ptr _ _|.iptr _|.fn _ _ _|.map _|.imap _|.sla _ _ _ _ _|.cm _ _ _ _ _|.yld _|.opq _=>true
 |_=>false
theorem js {M:Mem} {B:List GB} {v:AV} {x:Value} (h1:eH v=true) (h:ag M B v x):x.oneCell'=true:=by
 cases h<;>simp[eH] at h1<;>first|rfl|skip
 cases x<;>first|rfl|simp at h1
theorem iN {M:Mem} {B:List GB} {v:AV} {cs:List AV} {x:Value} (h1:cd v=some cs) (h:ag M B v x) :
 x.cells.size=cs.length∧∀(i:Nat) (c:AV),cs[i]? = some c→ag M B c (x.cells.getD i undef):=by
 have one:∀(u:AV) (x:Value),x.cells=#[x]→ag M B u x→x.cells.size=[u].length∧∀(i:Nat) (c:AV),[u][i]? = some c→ag M B c (x.cells.getD i undef):=by
  intro u x hx hu;rw[hx];refine⟨rfl,fun i c hi=>?_⟩;cases i with
  |zero=>simp at hi;subst hi;exact hu
  |succ i=>simp at hi
 cases v with
 | agg cs' =>
   simp only[cd,Option.some.injEq] at h1;subst h1;cases h with
   |agg _ vs hl h=>exact⟨hl,h⟩
 | prim v' =>
   cases h;cases x<;>simp only[cd,Option.some.injEq,reduceCtorEq] at h1<;>subst h1<;>exact one _ _ rfl (.prim _)
 |nils=>simp only[cd,Option.some.injEq] at h1;subst h1;cases h;exact one _ _ rfl .nils
 |sl sz es t=>simp only[cd,Option.some.injEq] at h1;subst h1;exact one _ _ (by cases h<;>rfl) h
 |ptr l o=>simp only[cd,Option.some.injEq] at h1;subst h1;exact one _ _ (by cases h<;>rfl) h
 |iptr cs=>simp only[cd,Option.some.injEq] at h1;subst h1;exact one _ _ (by cases h<;>rfl) h
 |fn f a c=>simp only[cd,Option.some.injEq] at h1;subst h1;exact one _ _ (by cases h<;>rfl) h
 |map l=>simp only[cd,Option.some.injEq] at h1;subst h1;exact one _ _ (by cases h<;>rfl) h
 |imap k=>simp only[cd,Option.some.injEq] at h1;subst h1;exact one _ _ (by cases h<;>rfl) h
 |sla=>simp only[cd,Option.some.injEq] at h1;subst h1;exact one _ _ (by cases h<;>rfl) h
 |cm=>simp only[cd,Option.some.injEq] at h1;subst h1;exact one _ _ (by cases h<;>rfl) h
 |yld=>simp only[cd,Option.some.injEq] at h1;subst h1;exact one _ _ (by cases h<;>rfl) h
 |opq=>simp only[cd,Option.some.injEq] at h1;subst h1;exact one _ _ (by cases h<;>rfl) h
 |any=>simp[cd] at h1
 |tup=>simp[cd] at h1
 |when=>simp[cd] at h1
 |ext=>simp[cd] at h1
theorem eV {M:Mem} {w:World} (h:dc M w):(∀b,w.heap.size≤b→(∀o,M.cell b o=none)∧M.map b=none):=by
 intro b hb;refine⟨fun o=>?_,?_⟩
 · cases hc:M.cell b o with
   |none=>rfl
   |some v=>have:=World.block_lt_of_cell? _ _ (h.1 _ _ _ hc);simp at this;omega
 · cases hc:M.map b with
   |none=>rfl
   |some v=>obtain⟨c,h1⟩:=h.2 _ _ hc;simp[zAj hb] at h1
theorem heap_alloc (w:World) (o:Obj) (k:Nat):(w.alloc o).heap[k]? = if k=w.heap.size then some o else w.heap[k]? := by
 show(w.heap.push o)[k]? = _;rw[zDb]
theorem mP {M:Mem} {w:World} (h:dc M w) (o:Obj):dc M (w.alloc o):=by
 refine⟨fun b k v hb=>?_,fun b es hb=>?_,h.g⟩
 · have h1:=h.1 _ _ _ hb;have:=World.block_lt_of_cell? _ _ h1;rw[World.cell?_alloc_lt w o _ this];exact h1
 · obtain⟨c,h1⟩:=h.2 _ _ hb;refine⟨c,?_⟩;rw[heap_alloc];split
   · rename_i e;subst e;simp at h1
   · exact h1
theorem aC.kO {G:Gh} {σ:ae} {w:World} (h:aC G σ w) {p:Nat×Obj} (hp:p∈G.D):p.1<w.heap.size:=by
 have h1:=(h.dfr.1 p hp).1;rcases zAa p.1 w.heap.size with h|h
 · exact h
 · simp[zAj h] at h1
theorem aC.alloc {G:Gh} {σ:ae} {w:World} (h:aC G σ w) {o:Obj} {g:GB} {ao:bc} (hg:g.block=some w.heap.size) (ho:cW G.M (G.B++[g]) (w.alloc o) g ao) :
 aC { G with B:=G.B++[g] } (σ++[ao]) (w.alloc o):=by
 refine⟨mP h.ay o,h.m0,⟨by have:=h.base.1;show G.w0.w.heap.size≤_;simp;omega,fun b hb=>?_⟩,by simp[h.len],fun l g' o' h1 h2=>?_,fun l g' b h1 h2=>?_,fun l l' g1 g2 b h1 h2 h3 h4=>?_,h.out,⟨fun p hp=>?_,h.dfr.2⟩⟩
 · have hb':=h.nQ hb;rw[heap_alloc,if_neg oM];exact h.base.2 b hb
 · rcases zAa l G.B.length with hlt|hge
   · rw[zA8 hlt] at h1;rw[zA8 (by rw[←h.len];exact hlt)] at h2;refine(h.bB l g' o' h1 h2).cY (BLe.append _ _) fun b hb=>?_
     have:=(h.fresh l g' b h1 hb).2;rw[heap_alloc,if_neg oM]
   · rw[zA7 hge] at h1;rw[zA7 (by rw[←h.len];exact hge)] at h2;have hz:l - G.B.length=0:=by
      rcases zBe (l - G.B.length) with hz|hp
      · exact hz
      · rw[zA3 (by simp;omega)] at h1;simp at h1
     rw[hz] at h1;rw[←h.len,hz] at h2;simp at h1 h2;subst h1;subst h2;exact ho
 · rcases zAa l G.B.length with hlt|hge
   · rw[zA8 hlt] at h1;have:=h.fresh l g' b h1 h2;exact⟨this.1,by simp;omega⟩
   · rw[zA7 hge] at h1;have hz:l - G.B.length=0:=by
      rcases zBe (l - G.B.length) with hz|hp
      · exact hz
      · rw[zA3 (by simp;omega)] at h1;simp at h1
     rw[hz] at h1;simp at h1;subst h1;rw[hg] at h2;simp at h2;subst h2;exact⟨h.Fo (zAt _),by simp⟩
 · have wz:∀(l:Nat) (g':GB),(G.B++[g])[l]? = some g'→G.B.length≤l→l=G.B.length∧g'=g:=by
    intro l g' h1 hge;rw[zA7 hge] at h1;have hz:l - G.B.length=0:=by
     rcases zBe (l - G.B.length) with hz|hp
     · exact hz
     · rw[zA3 (by simp;omega)] at h1;simp at h1
    rw[hz] at h1;simp at h1;exact⟨oM,h1.symm⟩
   rcases zAa l G.B.length with hl|hl<;>rcases zAa l' G.B.length with hl'|hl'
   · rw[zA8 hl] at h1;rw[zA8 hl'] at h2;exact h.inj l l' g1 g2 b h1 h2 h3 h4
   · rw[zA8 hl] at h1;obtain⟨_,rfl⟩:=wz l' g2 h2 hl';rw[hg] at h4;simp at h4;subst h4;have:=(h.fresh l g1 _ h1 h3).2;omega
   · rw[zA8 hl'] at h2;obtain⟨_,rfl⟩:=wz l g1 h1 hl;rw[hg] at h3;simp at h3;subst h3;have:=(h.fresh l' g2 _ h2 h4).2;omega
   · rw[(wz l g1 h1 hl).1,(wz l' g2 h2 hl').1]
 · obtain⟨h1,h2,h3,h4⟩:=h.dfr.1 p hp;have hlt:=h.kO hp;refine⟨by rw[heap_alloc,if_neg oM];exact h1,h2,fun l g' hl e=>?_,h4⟩;rcases zAa l G.B.length with uc|hge
   · rw[zA8 uc] at hl;exact h3 l g' hl e
   · rw[zA7 hge] at hl;have hz:l - G.B.length=0:=by
      rcases zBe (l - G.B.length) with hz|hp
      · exact hz
      · rw[zA3 (by simp;omega)] at hl;simp at hl
     rw[hz] at hl;simp at hl;subst hl;rw[hg] at e;simp at e;omega
theorem aC.upd {G:Gh} {σ:ae} {w w':World} (h:aC G σ w) {l b:Nat} {g:GB} {o':bc} (hl:G.B[l]? = some g) (hb:g.block=some b) (hsz:w'.heap.size=w.heap.size)
 (hk:∀k,k≠b→w'.heap[k]? = w.heap[k]?) (ho:cW G.M G.B w' g o') (hm:(∀o,G.M.cell b o=none)∧G.M.map b=none) (nV:cD w w'):aC G (σ.set l o') w':=by
 refine⟨⟨fun b' k v hc=>?_,fun b' es hc=>?_,h.ay.g⟩,h.m0,⟨by have:=h.base.1;omega,fun b' hb'=>?_⟩,by simp[h.len],fun l' g' o2 h1 h2=>?_,fun l' g' b' h1 h2=>?_,h.inj,h.out.trans nV,⟨fun p hp=>?_,h.dfr.2⟩⟩
 · have hne:b'≠b:=fun e=>by subst e;rw[hm.1] at hc;simp at hc
   have:=h.ay.1 _ _ _ hc;simp only[World.cell?] at this ⊢;rw[hk _ hne];exact this
 · have hne:b'≠b:=fun e=>by subst e;rw[hm.2] at hc;simp at hc
   obtain⟨c,h1⟩:=h.ay.2 _ _ hc;exact⟨c,by rw[hk _ hne];exact h1⟩
 · have:=(h.fresh l g b hl hb).1;rw[hk b' fun e=>this (e▸hb')];exact h.base.2 b' hb'
 · by_cases hll:l=l'
   · subst hll;have hlt:l<σ.length:=by
      rw[←h.len];rcases zAa l G.B.length with h'|h'
      · exact h'
      · simp[zA3 h'] at hl
     rw[zAf hlt] at h2;simp at h2;subst h2;rw[hl] at h1;simp at h1;subst h1;exact ho
   · rw[zAp hll] at h2;refine(h.bB l' g' o2 h1 h2).cY (BLe.refl _) fun b' hb'=>hk b' fun e=>?_
     subst e;exact hll (h.inj l l' g g' b' hl h1 hb hb')
 · have:=h.fresh l' g' b' h1 h2;exact⟨this.1,oM⟩
 · obtain⟨h1,h2,h3,h4⟩:=h.dfr.1 p hp;exact⟨(hk _ fun e=>h3 l g hl (by rw[hb,e])).trans h1,h2,h3,h4⟩
section
variable {P:Program} {n:Nat} {ops:Array Oper} {o:Oper} {env:Env} {σ:ae} {k:Env→ae→Prop}
theorem EStep.plain (hg:o.guard=none)
 (h:∀G a w,bf n G env σ a w→OWP P o a w (fun a' w'=>∃aw σ' G',k aw σ'∧G.Le G'∧bf n G' aw σ' a' w')):EStep P n ops o k env σ:=by
 intro G a w hr;rw[if_pos (by simp[Region.wanted,hg])];exact h G a w hr
theorem bf.rd {G:Gh} {a:Act} {w:World} {x:Operand} {u:AV} (hr:bf n G env σ a w) (h:Rd env x u):ag G.M G.B u (a.eval x):=by
 apply h;cases x with
 |tmp t=>exact hr.bh t
 |const v=>exact qU _ _ v
 |global g=>exact wV hr.st.ay.g _ g env
 |func f=>exact .fn _ _ _ _ _ rfl rfl (fun i c h=>by simp at h) (fun i c h=>by simp at h)
theorem EStep.box {T:TypeId} {x:Operand} {u:AV} {d:Nat} {cs:List AV} (ho:o.op=.box T x) (hg:o.guard=none) (hd:o.dst=some d) (hdn:d<n) (hx:Rd env x u) (hc:cd u=some cs)
 (hk:k (env.put d (.ptr σ.length 0)) (σ++[.var cs])):EStep P n ops o k env σ:=by
 refine EStep.plain hg fun G a w hr=>?_
 have h1:=hr.rd hx;obtain⟨h2,h3⟩:=iN hc h1;have bl:(execOp a.eval o).run P w=.ok (.value (.pointer (some ⟨w.heap.size,0,none⟩))) (w.alloc (.cells (a.eval x).cells T)):=by
  simp[execOp,ho,Instr.box,newVar,newRow]
 unfold OWP;rw[bl];have hs:aC { G with B:=G.B++[.blk w.heap.size] } (σ++[.var cs]) (w.alloc (.cells (a.eval x).cells T)):=by
  refine hr.st.alloc rfl (.var _ cs _ T (0,0) ?_ ?_ h2 ?_ ?_)
  · rw[heap_alloc,if_pos rfl]
  · intro o _;simp
  · exact fun i c hi=>(h3 i c hi).mono (Mem.Le.refl _) (BLe.append _ _)
  · exact(eV hr.st.ay _ (zAt _)).1
 refine⟨_,_,{ G with B:=G.B++[.blk w.heap.size] },hk,.upB (BLe.append _ _),?_⟩;rw[hd];have hr':bf n { G with B:=G.B++[.blk w.heap.size] } env (σ++[.var cs]) a (w.alloc (.cells (a.eval x).cells T)):=⟨hr.size,hr.defers,fun i=>(hr.bh i).mono (Mem.Le.refl _) (BLe.append _ _),hs⟩;exact hr'.put hdn (.ptr _ _ _ (by simp[←hr.st.len]))
theorem EStep.alloc {T:TypeId} {d:Nat} {li:LI} (ho:o.op=.alloc T) (hg:o.guard=none) (hd:o.dst=some d) (hdn:d<n) (hl:LOk P T li)
 (hk:k (env.put d (.ptr σ.length 0)) (σ++[.var (li.zero.map Z.av)])):EStep P n ops o k env σ:=by
 refine EStep.plain hg fun G a w hr=>?_
 have bl:(execOp a.eval o).run P w=.ok (.value (.pointer (some ⟨w.heap.size,0,none⟩))) (w.alloc (.cells li.aX.cells T)):=by
  simp[execOp,ho,Instr.alloc,newVar,newRow,hl.jg w]
 have hU:li.aX.cells=(li.zero.map Z.val).toArray:=by
  unfold LI.aX;cases ha:li.lt.isAgg with
  |true=>rfl
  | false =>
    obtain⟨z,hz⟩:=hl.one ha;rw[hz];cases z<;>rfl
 unfold OWP;rw[bl];have hs:aC { G with B:=G.B++[.blk w.heap.size] } (σ++[.var (li.zero.map Z.av)]) (w.alloc (.cells li.aX.cells T)):=by
  refine hr.st.alloc rfl (.var _ _ li.aX.cells T (0,0) ?_ ?_ (by simp[hU]) ?_ ?_)
  · rw[heap_alloc,if_pos rfl]
  · intro o _;simp
  · intro i c hi;simp only[zA5,zA6] at hi;obtain⟨z,hz,rfl⟩:=hi;rw[hU];simp only[zA2,zCg,zA5,hz,zBa,zCv];cases z<;>first|exact .prim _|exact .nils|exact .imapz
  · exact(eV hr.st.ay _ (zAt _)).1
 refine⟨_,_,{ G with B:=G.B++[.blk w.heap.size] },hk,.upB (BLe.append _ _),?_⟩;rw[hd];have hr':bf n { G with B:=G.B++[.blk w.heap.size] } env (σ++[.var (li.zero.map Z.av)]) a (w.alloc (.cells li.aX.cells T)):=⟨hr.size,hr.defers,fun i=>(hr.bh i).mono (Mem.Le.refl _) (BLe.append _ _),hs⟩;exact hr'.put hdn (.ptr _ _ _ (by simp[←hr.st.len]))
theorem dw {b off:Nat} {T:TypeId} {fr:Nat×Nat}:∀(vs:List Value) (i:Nat) (c:Array Value) (w:World),w.heap[b]? = some (.cells c T fr)→rC fr c.size→(∀v∈vs,v.oneCell'=true) →
 off+i+vs.length≤c.size→∃w' c',(storeCells ⟨b,off,none⟩ vs i).run P w=.ok () w'∧w'.heap.size=w.heap.size∧(∀k,k≠b→w'.heap[k]? = w.heap[k]?)∧w'.heap[b]? = some (.cells c' T fr) ∧
  c'.size=c.size∧(∀j,c'.getD j undef=if off+i≤j∧j<off+i+vs.length then vs.getD (j - (off+i)) undef else c.getD j undef)∧cD w w'
 |[],i,c,w,hb,_,_,_=>⟨w,c,rfl,rfl,fun _ _=>rfl,hb,rfl,fun j=>by rw[if_neg (by simp only[zAm];omega)],cD.refl _⟩
 | v :: vs, i, c, w, hb, hf, hv, hle => by
   simp only[zAd] at hle;have hlt:off+i<c.size:=oM;have fc:w.cell? ⟨b,off+i,none⟩=some c[off+i]:=by simp[World.cell?,hb,hlt]
   have hfz:w.frozen? ⟨b,off+i,none⟩=false:=by
    have:=hf (off+i) (Nat.le_of_lt hlt);simp only[World.frozen?,hb];simpa using this
   have Fq:(w.setCell ⟨b,off+i,none⟩ v).heap[b]? = some (.cells (c.setIfInBounds (off+i) v) T fr):=by
    simp[World.setCell,zBr,hb]
   obtain⟨w',c',h1,h2,h3,h4,h5,h6,ho⟩:=dw (b:=b) (off:=off) (T:=T) (fr:=fr) vs (i+1) (c.setIfInBounds (off+i) v) (w.setCell ⟨b,off+i,none⟩ v) Fq (by simpa using hf) (fun v hv'=>hv v (zB9 _ hv')) (by rw[zCq];omega);refine⟨w',c',?_,by simpa using h2,fun k hk=>?_,h4,by simpa using h5,fun j=>?_,ho⟩
   · simp only[storeCells,Sem.run_bind,cq];rw[run_store P w _ v _ (hv v (zB8 ..)),fc];simp only[hfz,zAz,if_false,Result.andThen_ok];exact h1
   · rw[h3 k hk];simp[World.setCell,zBr,Ne.symm hk]
   · rw[h6 j];by_cases h7:j=off+i
     · subst h7;rw[if_neg oM,if_pos sMp];simp[hlt]
     · by_cases h8:off+(i+1)≤j∧j<off+(i+1)+vs.length
       · rw[if_pos h8,if_pos (by simp;omega)];have:j - (off+i)=(j - (off+(i+1)))+1:=oM;rw[this];rfl
       · rw[if_neg h8,if_neg (by simp;omega)];simp only[zA2];rw[zCk (Ne.symm h7)]
def fX {α:Type} (cs:List α) (off:Nat) (us:List α):List α:=cs.take off++us++cs.drop (off+us.length)
theorem EStep.store {T:TypeId} {x y:Operand} {l off:Nat} {u:AV} {cs us:List AV} {li:LI} (ho:o.op=.store T x y) (hg:o.guard=none) (hx:Rd env x (.ptr l off)) (hσ:σ[l]? = some (.var cs))
 (hy:Rd env y u) (hc:cd u=some us) (jh:us.all eH=true) (hl:LOk P T li) (hsz:li.size=us.length) (hle:off+us.length≤cs.length) (hdn:eu n o=true)
 (hk:k (env.br o.dst .any) (σ.set l (.var (fX cs off us)))):EStep P n ops o k env σ:=by
 refine EStep.plain hg fun G a w hr=>?_
 have h1:=hr.rd hx;generalize hA:a.eval x=X at h1;cases h1 with
 | ptr _ _ b hb =>
   have h2:=hr.rd hy;obtain⟨h3,h4⟩:=iN hc h2;have cP:=hr.st.bB l _ _ hb hσ;cases cP with
   | var _ _ c T' fr hbb hf hlen bU hm =>
     obtain⟨w',c',r1,r2,r3,r4,r5,r6,j6⟩:=dw (P:=P) (b:=b) (off:=off) (T:=T') (fr:=fr) (a.eval y).cells.toList 0 c w hbb hf (fun v hv=>by
      obtain⟨i,hi,rfl⟩:=zAu.1 hv;have hi':i<us.length:=by simpa[h3] using hi
      have:=h4 i us[i] (zA1 hi');have h5:=zA4.1 jh us[i] (zCu hi');have h6:=js h5 this;have hi2:i<(a.eval y).cells.size:=oM;simpa[hi2] using h6) (by simp;omega)
     have bl:(execOp a.eval o).run P w=.ok .skip w':=by
      simp only[execOp,ho,hA,Instr.storeAt,Instr.sureAddr,storeVar];simp[hl.cg w,h3,hsz,r1]
     unfold OWP;rw[bl];have hmm:G.M.map b=none:=by
      cases hq:G.M.map b with
      |none=>rfl
      |some es=>obtain⟨cl,h5⟩:=hr.st.ay.2 _ _ hq;rw[hbb] at h5;simp at h5
     have hs:aC G (σ.set l (.var (fX cs off us))) w':=by
      refine hr.st.upd hb rfl r2 r3 (.var b _ c' T' fr r4 (by rw[r5];exact hf) (by simp[fX,r5,hlen];omega) (fun i av hi=>?_) hm) ⟨hm,hmm⟩ j6;rw[r6 i];simp only[zBq,zBp];unfold fX at hi;rcases zAa i off with h5|h5
      · rw[if_neg oM];rw[zBo,zA8 (by simp;omega),zAw,if_pos h5] at hi;exact bU i av hi
      · rcases zAa i (off+us.length) with h6|h6
        · rw[if_pos ⟨h5,oM⟩];rw[zBo,zA7 (by simp;omega),zA8 (by simp;omega)] at hi;have e:i - (cs.take off).length=i - off:=by simp;omega
          rw[e] at hi;have:=h4 _ _ hi;simpa using this
        · rw[if_neg oM];rw[zA7 (by simp;omega)] at hi;have e:(cs.drop (off+us.length))[i - (cs.take off++us).length]? = cs[i]? := by
           rw[zB6];congr 1;simp;omega
          rw[e] at hi;exact bU i av hi
     have hr':bf n G env (σ.set l (.var (fX cs off us))) a w':=⟨hr.size,hr.defers,hr.bh,hs⟩;exact⟨_,_,G,hk,Gh.Le.refl G,hr'.br (cu hdn) (.any _)⟩
end
end Go.Ab
/- The rules in the form in which a walk uses them: every value is computed, side conditions are tests. -/
namespace Go.Ab
def AV.wh:AV→Option AV
 |.any=>some .any
 |.prim v=>some (.prim v)
 |.agg cs=>some (.agg cs)
 |.tup cs=>some (.tup cs)
 |.nils=>some .nils
 |.sl sz es t=>some (.sl sz es t)
 |.ptr l o=>some (.ptr l o)
 |.iptr cs=>some (.iptr cs)
 |.fn f a c=>some (.fn f a c)
 |.map l=>some (.map l)
 |.imap k=>some (.imap k)
 |.when g v=>some (.when g v)
 |.ext v=>some (.ext v)
 |.sla l sz off len ver=>some (.sla l sz off len ver)
 |.cm l sz i o ver=>some (.cm l sz i o ver)
 |.yld l=>some (.yld l)
 |.opq v=>some (.opq v)
theorem AV.mh {v u:AV} (h:v.wh=some u):v=u:=by cases v<;>simp[AV.wh] at h<;>exact h
def rdv (env:Env) (x:Operand):Option AV:=match c9 env x with|.when _ v=>v.wh|v=>v.wh
def rdn (env:Env) (x:Operand):Prop:=match c9 env x with|.when g _=>g=true|_=>True
theorem Rd.w {env:Env} {x:Operand} {u:AV} (h:rdv env x=some u) (hn:rdn env x):Rd env x u:=by
 refine Rd.st ?_ ?_
 · unfold rdv at h;generalize c9 env x=e at *;cases e with
   |when g v=>exact AV.mh h
   |_=>exact AV.mh h
 · unfold rdn at hn;generalize c9 env x=e at *;cases e with
   |when g v=>exact hn
   |_=>trivial
inductive GG where
 |no
 |yes (c:Bool)
def GG.holds:GG→Prop
 |.no=>True
 |.yes c=>c=true
@[simp] theorem GG.MD (c:Bool):(GG.yes c).holds=(c=true):=rfl
@[simp] theorem GG.ME:GG.no.holds=True:=rfl
def GG.wrap:GG→AV→AV
 |.no,v=>v
 |.yes c,v=>.when c v
def gOf (ops:Array Oper) (env:Env) (o:Oper):Option GG :=
 match o.guard with
 |none=>some .no
 | some (j, want) => match (ops[j]?).bind (·.dst) with
   | some d => match env d with
     |.prim (.bool t)=>some (.yes (t==want))
     |.when g (.prim (.bool t))=>some (.yes (g&&(t==want)))
     |_=>none
   |none=>none
theorem PStep.g {P:Program} {ops:Array Oper} {o:Oper} {env:Env} {σ:ae} {v:AV} {g:GG} (hg:gOf ops env o=some g) (h:g.holds→PRun P o env σ v):PStep P ops o env σ (g.wrap v):=by
 unfold gOf at hg;split at hg
 · rename_i hgd;simp at hg;subst hg;exact PStep.plain hgd (h trivial)
 · rename_i j want hgd;split at hg
   · rename_i d hd;split at hg
     · rename_i t he;simp at hg;subst hg;exact PStep.guarded hgd hd (wW he) h
     · rename_i g' t he;simp at hg;subst hg;intro G a w hs hv;have hz:=hv d (List.mem_append_right _ (by simp[hgd,hd]));rw[he] at hz;have hw:Region.wanted o (yielded ops a.tmps)=(g'&&(t==want)):=by
        cases hz;rename_i h0 hz;simp only[Region.wanted,hgd,yielded,hd,zDx];cases hgc:g' with
        | false =>
          have h1:=h0 hgc;cases h:a.tmps[d]? with
          |none=>rfl
          |some y=>simp[h] at h1;subst h1;rfl
        | true =>
          have h1:=ag.aJ (hz hgc);have h2:a.tmps[d]? = some (.bool t):=by
           cases h:a.tmps[d]? with
           |none=>simp[h,undef] at h1
           |some y=>simp[h] at h1;rw[h1]
          simp only[h2];cases t<;>cases want<;>rfl
       rw[hw];split
       · rename_i htw;exact nR (fun a' w' ⟨x,G',h1,h2,h3⟩=>⟨x,G',h1,.when _ _ _ (fun _=>h2) (fun e=>by rw[htw] at e;cases e),h3⟩) (h htw G a w hs (hI hs fun x hx=>hv x (rD hx)))
       · rename_i htw;exact .when _ _ _ (fun e=>absurd e htw) fun _=>rfl
     · simp at hg
   · simp at hg
def ec:List AV→Option (List AV)
 |[]=>some []
 | a :: r => match ec r with
   |some r'=>some (a::r')
   |none=>none
theorem eS:∀{l r:List AV},ec l=some r→l=r
 |[],r,h=>by simp[ec] at h;exact h.symm
 | a :: l, r, h => by
   simp only[ec] at h;cases hl:ec l with
   |none=>simp[hl] at h
   |some r'=>simp[hl] at h;subst h;rw[eS hl]
def iC (li:LI) (off:Nat) (cs:List AV):Option AV :=
 if li.lt.isAgg then
  match ec ((cs.drop off).take li.size) with
  |some l=>if off+li.size≤cs.length then some (.agg l) else none
  |none=>none
 else match cs.drop off with
  |c::_=>c.wh
  |[]=>none
theorem jC {li:LI} {off:Nat} {cs:List AV} {u:AV} (h:iC li off cs=some u):hK li (cs.drop off)=u∧off+(if li.lt.isAgg then li.size else 1)≤cs.length:=by
 unfold iC at h;unfold hK;split at h
 · rename_i ha;rw[if_pos ha,if_pos ha];split at h
   · rename_i l hl;split at h
     · rename_i hle;simp at h;rw[←h,←eS hl];exact⟨rfl,hle⟩
     · simp at h
   · simp at h
 · rename_i ha;rw[if_neg ha,if_neg ha];split at h
   · rename_i c r hc;rw[hc];refine⟨AV.mh h,?_⟩;have:(cs.drop off).length≥1:=by rw[hc];simp
     simp at this;omega
   · simp at h
def wA (off:Nat) (cs:List AV):Option (List AV):=if off≤cs.length then ec (cs.drop off) else none
theorem A6 {off:Nat} {cs r:List AV} (h:wA off cs=some r):cs.drop off=r∧off≤cs.length:=by
 unfold wA at h;split at h
 · rename_i hle;exact⟨eS h,hle⟩
 · simp at h
def ju (T:Tab) (s f:Nat):Option (Nat×Nat×Nat):=match T.get s with
 | some ⟨.struct fs, _, _, _⟩ => match fs[f]? with
   |some (ft,off,sz)=>if sz=0 then none else some (ft,off,sz)
   |none=>none
 |_=>none
theorem jD {T:Tab} {P:Program} (hT:T.Ok P) {s f ft off sz:Nat} (h:ju T s f=some (ft,off,sz)):sz≠0∧∃fs s1 b1 z,LOk P s ⟨.struct fs,s1,b1,z⟩∧fs[f]? = some (ft,off,sz):=by
 unfold ju at h;split at h
 · rename_i fs s1 b1 z hg;split at h
   · rename_i ft' pw sz' hf;split at h
     · simp at h
     · rename_i hz;simp at h;obtain⟨rfl,rfl,rfl⟩:=h;exact⟨hz,fs,s1,b1,z,LOk.of (hT.get hg),hf⟩
   · simp at h
 · simp at h
section
variable {P:Program} {o:Oper} {env:Env} {σ:ae} {T:Tab}
theorem PRun.K7 {x:Operand} {u:AV} (ho:o.op=.move x) (hx:rdv env x=some u) (nx:rdn env x):PRun P o env σ u:=PRun.move ho (Rd.w hx nx)
theorem PRun.Ic {x:Operand} {u:AV} (ho:o.op=.assign x) (hx:rdv env x=some u) (nx:rdn env x):PRun P o env σ u:=PRun.assign ho (Rd.w hx nx)
theorem PRun.andW {c x:Operand} {t u:Bool} (ho:o.op=.pick c x (.const (.bool false))) (hc:rdv env c=some (.b t)) (nc:rdn env c) (hx:rdv env x=some (.b u)) (nx:t=true→rdn env x):PRun P o env σ (.b (t&&u)) :=
 PRun.Ib ho (Rd.w hc nc) fun h=>Rd.w hx (nx h)
theorem PRun.orW {c x:Operand} {t u:Bool} (ho:o.op=.pick c (.const (.bool true)) x) (hc:rdv env c=some (.b t)) (nc:rdn env c) (hx:rdv env x=some (.b u)) (nx:t=false→rdn env x):PRun P o env σ (.b (t||u)) :=
 PRun.JM ho (Rd.w hc nc) fun h=>Rd.w hx (nx h)
theorem PRun.cZ {op:BinOp} {t t':TypeId} {x y:Operand} {vx vy r:Value} (ho:o.op=.binOp op t x y t') (hx:rdv env x=some (.prim vx)) (nx:rdn env x) (hy:rdv env y=some (.prim vy)) (ny:rdn env y) (hr:jZ op vx vy=some r) :
 PRun P o env σ (.prim r):=PRun.bin ho (Rd.w hx nx) (Rd.w hy ny) hr
theorem wrap64_in {n:Int} (h:-9223372036854775808≤n∧n≤9223372036854775807):IntKind.i64.wrap n=n:=IntWalk.i64_in n h
theorem PRun.notW {t:TypeId} {x:Operand} {a:Bool} (ho:o.op=.unOp .not t x) (hx:rdv env x=some (.b a)) (nx:rdn env x):PRun P o env σ (.b (!a)):=PRun.not ho (Rd.w hx nx)
theorem PRun.negW {t:TypeId} {x:Operand} {a:Int} (ho:o.op=.unOp .neg t x) (hx:rdv env x=some (.int a)) (nx:rdn env x) (hr:-9223372036854775808≤0 - a∧0 - a≤9223372036854775807):PRun P o env σ (.int (-a)):=by
 have:=PRun.neg (P:=P) (σ:=σ) ho (Rd.w hx nx);rw[wrap64_in hr,Int.zero_sub] at this;exact this
theorem PRun.HA (hT:T.Ok P) {s d:TypeId} {x:Operand} {k k':IntKind} {a:Int} {lis:LI} {sz by':Nat} {z:List Z} (ho:o.op=.convert s d x) (hx:rdv env x=some (.prim (.int k a))) (nx:rdn env x) (hs':T.get s=some lis) (hl:T.get d=some ⟨.int k',sz,by',z⟩) :
 PRun P o env σ (.prim (.int k' (k'.wrap a))):=PRun.conv ho (Rd.w hx nx) (LOk.of (hT.get hs')) (LOk.of (hT.get hl))
theorem PRun.lenM (hT:T.Ok P) {α:Type} {l:List α} {f:α→List AV} {x:Operand} {sz:Nat} {tk:Tok} {t:TypeId} {ty:TypeId} {s1 b1:Nat} {z:List Z} (ho:o.op=.call { callee:=.builtin .len,args:=#[x],argTypes:=#[t] })
 (hx:rdv env x=some (.sl sz (l.map f) tk)) (nx:rdn env x) (hl:T.get t=some ⟨.slice ty,s1,b1,z⟩):PRun P o env σ (.int l.length):=by
 have:=PRun.len (P:=P) (σ:=σ) (t:=0) ho (Rd.w hx nx) (LOk.of (hT.get hl));rwa [zD6] at this
theorem PRun.lenW (hT:T.Ok P) {x:Operand} {sz:Nat} {es:List (List AV)} {tk:Tok} {t:TypeId} {ty:TypeId} {s1 b1:Nat} {z:List Z} (ho:o.op=.call { callee:=.builtin .len,args:=#[x],argTypes:=#[t] })
 (hx:rdv env x=some (.sl sz es tk)) (nx:rdn env x) (hl:T.get t=some ⟨.slice ty,s1,b1,z⟩):PRun P o env σ (.int es.length):=PRun.len (t:=0) ho (Rd.w hx nx) (LOk.of (hT.get hl))
theorem PRun.Ie (hT:T.Ok P) {x:Operand} {t:TypeId} {ty:TypeId} {s1 b1:Nat} {z:List Z} (ho:o.op=.call { callee:=.builtin .len,args:=#[x],argTypes:=#[t] })
 (hx:rdv env x=some .nils) (nx:rdn env x) (hl:T.get t=some ⟨.slice ty,s1,b1,z⟩):PRun P o env σ (.int 0):=PRun.JP (t:=0) ho (Rd.w hx nx) (LOk.of (hT.get hl))
theorem PRun.Ig (hT:T.Ok P) {x:Operand} {s:ByteArray} {t:TypeId} {s1 b1:Nat} {z:List Z} (ho:o.op=.call { callee:=.builtin .len,args:=#[x],argTypes:=#[t] })
 (hx:rdv env x=some (.str s)) (nx:rdn env x) (hl:T.get t=some ⟨.str,s1,b1,z⟩):PRun P o env σ (.int s.size):=PRun.JQ ho (Rd.w hx nx) (LOk.of (hT.get hl))
theorem PRun.Fs {x y:Operand} {Ts:Array TypeId} {k:IntKind} {a b:Int} (ho:o.op=.call { callee:=.builtin .max,args:=#[x,y],argTypes:=Ts })
 (hx:rdv env x=some (.prim (.int k a))) (nx:rdn env x) (hy:rdv env y=some (.prim (.int k b))) (ny:rdn env y):PRun P o env σ (.prim (.int k (Max.max a b))):=by
 have:=PRun.max (P:=P) (σ:=σ) ho (Rd.w hx nx) (Rd.w hy ny);have e:(if b>a then b else a)=Max.max a b:=by
  rw[Int.max_def];split<;>split<;>omega
 rwa [e] at this
theorem PRun.minW {x y:Operand} {Ts:Array TypeId} {k:IntKind} {a b:Int} (ho:o.op=.call { callee:=.builtin .min,args:=#[x,y],argTypes:=Ts })
 (hx:rdv env x=some (.prim (.int k a))) (nx:rdn env x) (hy:rdv env y=some (.prim (.int k b))) (ny:rdn env y):PRun P o env σ (.prim (.int k (Min.min a b))):=by
 have:=PRun.min (P:=P) (σ:=σ) ho (Rd.w hx nx) (Rd.w hy ny);have e:(if b<a then b else a)=Min.min a b:=by
  rw[Int.min_def];split<;>split<;>omega
 rwa [e] at this
theorem PRun.Ih (hT:T.Ok P) {s:TypeId} {x:Operand} {f ft off sz:Nat} {cs cs':List AV} (ho:o.op=.fieldAddr s x f) (hx:rdv env x=some (.iptr cs)) (nx:rdn env x) (hf:ju T s f=some (ft,off,sz)) (hd:wA off cs=some cs') :
 PRun P o env σ (.iptr cs'):=by
 obtain⟨hz,fs,s1,b1,z,hl,hf'⟩:=jD hT hf;obtain⟨h1,h2⟩:=A6 hd;have:=PRun.JR (P:=P) (σ:=σ) ho (Rd.w hx nx) hl hf' hz h2;rwa [h1] at this
theorem PRun.Ii (hT:T.Ok P) {s:TypeId} {x:Operand} {f ft off sz l o':Nat} (ho:o.op=.fieldAddr s x f) (hx:rdv env x=some (.ptr l o')) (nx:rdn env x) (hf:ju T s f=some (ft,off,sz)) :
 PRun P o env σ (.ptr l (o'+off)):=by
 obtain⟨hz,fs,s1,b1,z,hl,hf'⟩:=jD hT hf;exact PRun.JS (P:=P) (σ:=σ) ho (Rd.w hx nx) hl hf' hz
theorem PRun.JW (hT:T.Ok P) {t:TypeId} {x:Operand} {cs:List AV} {li:LI} {u:AV} (ho:o.op=.load t x) (hx:rdv env x=some (.iptr cs)) (nx:rdn env x) (hl:T.get t=some li) (hu:iC li 0 cs=some u):PRun P o env σ u:=by
 obtain⟨h1,h2⟩:=jC hu;have:=PRun.K2 (P:=P) (σ:=σ) ho (Rd.w hx nx) (LOk.of (hT.get hl)) oM;simp only[List.drop_zero] at h1;rwa [h1] at this
theorem PRun.JX (hT:T.Ok P) {t:TypeId} {x:Operand} {l off:Nat} {cs:List AV} {li:LI} {u:AV} (ho:o.op=.load t x) (hx:rdv env x=some (.ptr l off)) (nx:rdn env x) (hσ:σ[l]? = some (.var cs)) (hl:T.get t=some li)
 (hu:iC li off cs=some u):PRun P o env σ u:=by
 obtain⟨h1,h2⟩:=jC hu;have:=PRun.K3 (P:=P) (σ:=σ) ho (Rd.w hx nx) hσ (LOk.of (hT.get hl)) h2;rwa [h1] at this
theorem PRun.fldW (hT:T.Ok P) {t:TypeId} {x:Operand} {f ft off sz:Nat} {cs:List AV} {li:LI} {u:AV} (ho:o.op=.field t x f) (hx:rdv env x=some (.agg cs)) (nx:rdn env x) (hf:ju T t f=some (ft,off,sz))
 (hl:T.get ft=some li) (hu:iC li off cs=some u):PRun P o env σ u:=by
 obtain⟨hz,fs,s1,b1,z,hl',hf'⟩:=jD hT hf;obtain⟨h1,h2⟩:=jC hu;have:=PRun.field (P:=P) (σ:=σ) ho (Rd.w hx nx) hl' hf' (LOk.of (hT.get hl)) h2;rwa [h1] at this
def dO (T:Tab) (t:Nat):Option Nat:=match T.get t with
 |some ⟨.slice e,_,_,_⟩=>(T.get e).map (·.size)
 |_=>none
theorem dh (hT:T.Ok P) {t sz:Nat} (h:dO T t=some sz):∃e s1 b1 z li,LOk P t ⟨.slice e,s1,b1,z⟩∧LOk P e li∧li.size=sz:=by
 unfold dO at h;split at h
 · rename_i e s1 b1 z hg;simp only[zA6] at h;obtain⟨li,h1,h2⟩:=h;exact⟨e,s1,b1,z,li,LOk.of (hT.get hg),LOk.of (hT.get h1),h2⟩
 · simp at h
theorem PRun.uf (hT:T.Ok P) {α:Type} [Inhabited α] {t:TypeId} {x y:Operand} {sz:Nat} {l:List α} {f:α→List AV} {tk:Tok} {k:IntKind} {i:Int} {cs:List AV} (ho:o.op=.indexAddr t x y) (hx:rdv env x=some (.sl sz (l.map f) tk)) (nx:rdn env x)
 (hy:rdv env y=some (.prim (.int k i))) (ny:rdn env y) (hl:dO T t=some sz) (hc:ec (f (l.getD i.toNat default))=some cs) (h0:0≤i∧i<l.length):PRun P o env σ (.iptr cs):=by
 obtain⟨e,s1,b1,z,li,h1,h2,h3⟩:=dh hT hl;have:=PRun.JU (P:=P) (σ:=σ) ho (Rd.w hx nx) (Rd.w hy ny) h1 h2 h3 h0.1 h0.2;rwa [eS hc] at this
theorem PRun.Ij (hT:T.Ok P) {t:TypeId} {x y:Operand} {s:ByteArray} {k:IntKind} {i:Int} {s1 b1:Nat} {z:List Z} (ho:o.op=.index t x y) (hx:rdv env x=some (.str s)) (nx:rdn env x)
 (hy:rdv env y=some (.prim (.int k i))) (ny:rdn env y) (hl:T.get t=some ⟨.str,s1,b1,z⟩) (h0:0≤i∧i<s.size):PRun P o env σ (.prim (.int .u8 ((s.data.toList.getD i.toNat 0).toNat))) :=
 PRun.JV ho (Rd.w hx nx) (Rd.w hy ny) (LOk.of (hT.get hl)) h0.1 h0.2
theorem PRun.Ft {x:Operand} {k:Nat} {cs:List AV} {c u:AV} (ho:o.op=.extract x k) (hx:rdv env x=some (.tup cs)) (nx:rdn env x) (hc:cs[k]? = some c) (hu:c.wh=some u):PRun P o env σ u :=
 AV.mh hu▸PRun.extract ho (Rd.w hx nx) hc
theorem PRun.Db {f:Fn} {first aQ:Array Operand} (ho:o.op=.makeFunc f first aQ) (hn:(∀x∈first.toList,rdn env x)∧∀x∈aQ.toList,rdn env x) {a c:List AV} (ha:first.toList.mapM (rdv env)=some a) (hc:aQ.toList.mapM (rdv env)=some c) :
 PRun P o env σ (.fn f a c):=by
 refine .of fun G A w hs hv=>⟨.func f (first.map A.eval) (aQ.map A.eval),by simp[execOp,ho,Instr.makeFunc],?_⟩
 have key:∀(l:List Operand) (a:List AV),(∀x∈l,x∈o.op.operands)→(∀x∈l,rdn env x)→l.mapM (rdv env)=some a→a.length=l.length∧∀(i:Nat) (u:AV),a[i]? = some u→ag G.M G.B u (((l.map A.eval)[i]?).getD undef):=by
  intro l;induction l with
  |nil=>intro a _ _ h;simp at h;subst h;exact⟨rfl,fun i u h=>by simp at h⟩
  | cons x l ih =>
    intro a hm hn h;simp only[zD3,Option.bind_eq_bind,Option.pure_def] at h;cases hx:rdv env x with
    |none=>simp[hx] at h
    | some u =>
      cases hl:l.mapM (rdv env) with
      |none=>simp[hx,hl] at h
      | some a' =>
        simp[hx,hl] at h;subst h;obtain⟨h1,h2⟩:=ih a' (fun y hy=>hm y (zB9 _ hy)) (fun y hy=>hn y (zB9 _ hy)) hl;refine⟨by simp[h1],fun i u' hi=>?_⟩;cases i with
        | zero =>
          simp at hi;subst hi;simpa using rd (Rd.w hx (hn x (zB8 ..))) (hm x (zB8 ..)) hv
        |succ i=>simp at hi ⊢;simpa using h2 i u' hi
 obtain⟨l1,v1⟩:=key first.toList a (fun x hx=>by simp[ho,Op.operands];exact .inl (by simpa using hx)) hn.1 ha
 obtain⟨l2,v2⟩:=key aQ.toList c (fun x hx=>by simp[ho,Op.operands];exact .inr (by simpa using hx)) hn.2 hc;refine .fn f a c _ _ (by simpa using l1.symm) (by simpa using l2.symm) (fun i u hi=>?_) fun i u hi=>?_
 · have:=v1 i u hi;simpa[zA2] using this
 · have:=v2 i u hi;simpa[zA2] using this
def eW (env:Env):List Operand→Prop
 |[]=>True
 |x::r=>rdn env x∧eW env r
theorem jE {env:Env}:∀{l:List Operand},eW env l→nT env l
 |[],_=>trivial
 | x :: r, h => ⟨by
   have:=h.1;unfold rdn at this;generalize c9 env x=e at *;cases e with
   |when g v=>exact this
   |_=>trivial,jE h.2⟩
theorem PRun.HB {fo:Operand} {args:Array Operand} {Ts:Array TypeId} {k:Nat} {first aQ avs:List AV} {r:AV} (h:PCall P k avs r)
 (ho:o.op=.call { callee:=.value fo,args:=args,argTypes:=Ts }) (hf:rdv env fo=some (.fn (.func k) first aQ)) (nf:rdn env fo)
 (ha:first.map (unb 4)++(args.toList.map fun x=>unb 4 (c9 env x).st)++aQ.map (unb 4)=avs) (hn:eW env args.toList):PRun P o env σ r :=
 PRun.K4 ho (Rd.w hf nf) (jE hn) h ha
theorem PRun.JY {fo:Operand} {args:Array Operand} {Ts:Array TypeId} {k:Nat} {first aQ avs:List AV} {r:AV} (h:PCall P k avs r)
 (ho:o.op=.call { callee:=.value fo,args:=args,argTypes:=Ts }) (hf:rdv env fo=some (.fn (.func k) first aQ)) (nf:rdn env fo)
 (ha:first.map (bor 4 σ)++(args.toList.map fun x=>bor 4 σ (c9 env x).st)++aQ.map (bor 4 σ)=avs) (hr:flat r=true) (hn:eW env args.toList):PRun P o env σ r :=
 PRun.K5 ho (Rd.w hf nf) (jE hn) h ha hr
end
theorem AOps.q {P:Program} {n:Nat} {ops:Array Oper} {o:Oper} {rest:List Oper} {K:Env→ae→Prop} {env:Env} {σ:ae} {v v':AV} {g:GG} {d:Nat} (hd:o.dst=some d) (hn:decide (d<n)=true) (hg:gOf ops env o=some g)
 (h:g.holds→PRun P o env σ v) (hv:(g.wrap v).wh=some v') (hk:AOps P n ops K rest (env.put d v') σ):AOps P n ops K (o::rest) env σ :=
 AOps.pure (by simpa[eu,hd] using hn) (PStep.g hg h) (by rw[hd];exact AV.mh hv▸hk)
theorem AQ.q {P:Program} {ops:Array Oper} {o:Oper} {rest:List Oper} {K:Env→Prop} {env:Env} {σ:ae} {v v':AV} {g:GG} {d:Nat} (hd:o.dst=some d) (hg:gOf ops env o=some g)
 (h:g.holds→PRun P o env σ v) (hv:(g.wrap v).wh=some v') (hk:AQ P ops σ K rest (env.put d v')):AQ P ops σ K (o::rest) env:=⟨_,PStep.g hg h,by rw[hd];exact AV.mh hv▸hk⟩
theorem AOps.nil {P:Program} {n:Nat} {ops:Array Oper} {K:Env→ae→Prop} {env:Env} {σ:ae} (h:K env σ):AOps P n ops K [] env σ:=h
theorem AQ.nil {P:Program} {ops:Array Oper} {K:Env→Prop} {env:Env} {σ:ae} (h:K env):AQ P ops σ K [] env:=h
theorem AOps.e {P:Program} {n:Nat} {ops:Array Oper} {o:Oper} {rest:List Oper} {K:Env→ae→Prop} {env:Env} {σ:ae} (h:EStep P n ops o (AOps P n ops K rest) env σ):AOps P n ops K (o::rest) env σ:=h
section
variable {P:Program} {n:Nat} {ops:Array Oper} {o:Oper} {env:Env} {σ:ae} {k:Env→ae→Prop} {T:Tab}
theorem EStep.boxW {t:TypeId} {x:Operand} {u:AV} {d:Nat} {cs cs':List AV} (ho:o.op=.box t x) (hg:o.guard=none) (hd:o.dst=some d) (hdn:(decide (d<n))=true) (hx:rdv env x=some u) (nx:rdn env x) (hc:cd u=some cs) (hf:ec cs=some cs')
 (hk:k (env.put d (.ptr σ.length 0)) (σ++[.var cs'])):EStep P n ops o k env σ:=EStep.box ho hg hd (of_decide_eq_true hdn) (Rd.w hx nx) hc (eS hf▸hk)
theorem EStep.Dc (hT:T.Ok P) {t:TypeId} {d:Nat} {li:LI} {cs:List AV} (ho:o.op=.alloc t) (hg:o.guard=none) (hd:o.dst=some d) (hdn:(decide (d<n))=true) (hl:T.get t=some li) (hf:ec (li.zero.map Z.av)=some cs)
 (hk:k (env.put d (.ptr σ.length 0)) (σ++[.var cs])):EStep P n ops o k env σ:=EStep.alloc ho hg hd (of_decide_eq_true hdn) (LOk.of (hT.get hl)) (eS hf▸hk)
theorem EStep.Dd (hT:T.Ok P) {t:TypeId} {x y:Operand} {l off:Nat} {u:AV} {cs us cs':List AV} {li:LI} (ho:o.op=.store t x y) (hg:o.guard=none) (hx:rdv env x=some (.ptr l off)) (nx:rdn env x) (hσ:σ[l]? = some (.var cs))
 (hy:rdv env y=some u) (ny:rdn env y) (hc:cd u=some us) (jh:us.all eH=true) (hl:T.get t=some li) (hsz:li.size=us.length) (hle:(decide (off+us.length≤cs.length))=true) (hdn:eu n o=true) (hf:ec (fX cs off us)=some cs')
 (hk:k (env.br o.dst .any) (σ.set l (.var cs'))):EStep P n ops o k env σ :=
 EStep.store ho hg (Rd.w hx nx) hσ (Rd.w hy ny) hc jh (LOk.of (hT.get hl)) hsz (of_decide_eq_true hle) hdn (eS hf▸hk)
end
theorem AWP.A7 {P:Program} {n:Nat} {K:Exit→Env→ae→Prop} {env:Env} {σ:ae} {t:Nat} {x y:Code} {v:Bool} (hv:rdv env (.tmp t)=some (.b v)) (hn:rdn env (.tmp t)) (ht:v=true→AWP P n x K env σ) (hf:v=false→AWP P n y K env σ) :
 AWP P n (.cond (.tmp t) x y) K env σ :=
 AWP.cond rfl (fun M B z hz=>ag.aJ (Rd.w hv hn M B z hz)) ht hf
end Go.Ab
/- One quiet operation, computed. -/
namespace Go.Ab
def mi (n:Int):Prop := -9223372036854775808≤n∧n≤9223372036854775807
def wY (T:Tab) (t:TypeId):BinOp→Value→Value→Option (Value×Prop)
 |.add,.int .i64 a,.int .i64 b=>some (.int .i64 (a+b),mi (a+b))
 |.sub,.int .i64 a,.int .i64 b=>some (.int .i64 (a - b),mi (a - b))
 |.mul,.int .i64 a,.int .i64 b=>some (.int .i64 (a * b),mi (a * b))
 |.quo,.int .i64 a,.int .i64 b=>some (.int .i64 (a.tdiv b),b≠0∧mi (a.tdiv b))
 |.quo,.int k a,.int k' b=>if k=k' then some (.int k (k.wrap (a.tdiv b)),b≠0) else none
 |.rem,.int k a,.int k' b=>if k=k' then some (.int k (a.tmod b),b≠0) else none
 |.add,.string a,.string b=>some (.string (a++b),a.size+b.size≤9223372036854775807)
 |.eql,.bool a,.bool b=>match T.get t with|some ⟨.bool,_,_,_⟩=>some (.bool (a==b),True)|_=>none
 |.neq,.bool a,.bool b=>match T.get t with|some ⟨.bool,_,_,_⟩=>some (.bool (a != b),True)|_=>none
 |op,x,y=>match jZ op x y with|some r=>some (r,True)|none=>none
theorem PRun.wY {P:Program} {o:Oper} {env:Env} {σ:ae} {T:Tab} (hT:T.Ok P) {op:BinOp} {t t':TypeId} {x y:Operand} {vx vy r:Value} {c:Prop} (ho:o.op=.binOp op t x y t') (hx:Rd env x (.prim vx)) (hy:Rd env y (.prim vy))
 (hr:wY T t op vx vy=some (r,c)) (hc:c):PRun P o env σ (.prim r):=by
 unfold Go.Ab.wY at hr;split at hr
 · simp only[Option.some.injEq,Prod.mk.injEq] at hr;obtain⟨rfl,rfl⟩:=hr;exact PRun.bin ho hx hy (by simp[jZ,wrap64_in hc])
 · simp only[Option.some.injEq,Prod.mk.injEq] at hr;obtain⟨rfl,rfl⟩:=hr;exact PRun.bin ho hx hy (by simp[jZ,wrap64_in hc])
 · simp only[Option.some.injEq,Prod.mk.injEq] at hr;obtain⟨rfl,rfl⟩:=hr;exact PRun.bin ho hx hy (by simp[jZ,wrap64_in hc])
 · simp only[Option.some.injEq,Prod.mk.injEq] at hr;obtain⟨rfl,rfl⟩:=hr;have:=PRun.quo (P:=P) (σ:=σ) ho hx hy hc.1;rwa [wrap64_in hc.2] at this
 · split at hr
   · rename_i hk;subst hk;simp only[Option.some.injEq,Prod.mk.injEq] at hr;obtain⟨rfl,rfl⟩:=hr;exact PRun.quo ho hx hy hc
   · simp at hr
 · split at hr
   · rename_i hk;subst hk;simp only[Option.some.injEq,Prod.mk.injEq] at hr;obtain⟨rfl,rfl⟩:=hr;exact PRun.rem ho hx hy hc
   · simp at hr
 · simp only[Option.some.injEq,Prod.mk.injEq] at hr;obtain⟨rfl,rfl⟩:=hr;exact PRun.cat ho hx hy hc
 · split at hr
   · rename_i hg;simp only[Option.some.injEq,Prod.mk.injEq] at hr;obtain⟨rfl,rfl⟩:=hr;exact PRun.JN ho hx hy (LOk.of (hT.get hg))
   · simp at hr
 · split at hr
   · rename_i hg;simp only[Option.some.injEq,Prod.mk.injEq] at hr;obtain⟨rfl,rfl⟩:=hr;exact PRun.JO ho hx hy (LOk.of (hT.get hg))
   · simp at hr
 · split at hr
   · rename_i hb;simp only[Option.some.injEq,Prod.mk.injEq] at hr;obtain⟨rfl,rfl⟩:=hr;exact PRun.bin ho hx hy hb
   · simp at hr
def rds (env:Env):List Operand→Option (List AV)
 |[]=>some []
 | x :: r => match rdv env x, rds env r with
   |some u,some us=>some (u::us)
   |_,_=>none
theorem px {env:Env}:∀{l:List Operand} {a:List AV},rds env l=some a→l.mapM (rdv env)=some a
 |[],a,h=>by simp[rds] at h;subst h;rfl
 | x :: r, a, h => by
   simp only[rds] at h;split at h
   · rename_i u us h1 h2;simp at h;subst h;simp[zD3,h1,px h2]
   · simp at h
theorem lM {env:Env}:∀{l:List Operand},eW env l→∀x∈l,rdn env x
 | _ :: _, h, x, hx => by
   rcases zAo.1 hx with rfl|hx
   · exact h.1
   · exact lM h.2 x hx
def HC (T:Tab) (env:Env) (σ:ae) (o:Oper):Option (AV×Prop) :=
 match o.op with
 |.move x=>match rdv env x with|some u=>some (u,rdn env x)|none=>none
 |.assign x=>match rdv env x with|some u=>some (u,rdn env x)|none=>none
 | .pick c x (.const (.bool false)) => match rdv env c, rdv env x with
   |some (.prim (.bool t)),some (.prim (.bool u))=>some (.b (t&&u),rdn env c∧(t=true→rdn env x))
   |_,_=>none
 | .pick c (.const (.bool true)) x => match rdv env c, rdv env x with
   |some (.prim (.bool t)),some (.prim (.bool u))=>some (.b (t||u),rdn env c∧(t=false→rdn env x))
   |_,_=>none
 | .binOp op t x y _ => match rdv env x, rdv env y with
   | some (.prim vx), some (.prim vy) => match wY T t op vx vy with
     |some (r,c)=>some (.prim r,rdn env x∧rdn env y∧c)
     |none=>none
   |_,_=>none
 |.unOp .not _ x=>match rdv env x with|some (.prim (.bool a))=>some (.b (!a),rdn env x)|_=>none
 |.unOp .neg _ x=>match rdv env x with|some (.prim (.int .i64 a))=>some (.int (-a),rdn env x∧mi (0 - a))|_=>none
 | .convert s d x => match rdv env x, T.get s, T.get d with
   |some (.prim (.int _ a)),some _,some ⟨.int k',_,_,_⟩=>some (.prim (.int k' (k'.wrap a)),rdn env x)
   |_,_,_=>none
 | .fieldAddr s x f => match rdv env x, ju T s f with
   |some (.iptr cs),some (_,off,_)=>match wA off cs with|some cs'=>some (.iptr cs',rdn env x)|none=>none
   |some (.ptr l o'),some (_,off,_)=>some (.ptr l (o'+off),rdn env x)
   |_,_=>none
 | .load t x => match rdv env x, T.get t with
   |some (.iptr cs),some li=>match iC li 0 cs with|some u=>some (u,rdn env x)|none=>none
   | some (.ptr l off), some li => match σ[l]? with
     |some (.var cs)=>match iC li off cs with|some u=>some (u,rdn env x)|none=>none
     |_=>none
   |_,_=>none
 | .field t x f => match rdv env x, ju T t f with
   | some (.agg cs), some (ft, off, _) => match T.get ft with
     |some li=>match iC li off cs with|some u=>some (u,rdn env x)|none=>none
     |none=>none
   |_,_=>none
 | .index t x y => match rdv env x, rdv env y, T.get t with
   |some (.prim (.string s)),some (.prim (.int _ i)),some ⟨.str,_,_,_⟩=>some (.prim (.int .u8 ((s.data.toList.getD i.toNat 0).toNat)),rdn env x∧rdn env y∧0≤i∧i<s.size)
   |_,_,_=>none
 | .extract x k => match rdv env x with
   | some (.tup cs) => match cs[k]? with
     |some c=>match c.wh with|some u=>some (u,rdn env x)|none=>none
     |none=>none
   |_=>none
 | .makeFunc f first aQ => match rds env first.toList, rds env aQ.toList with
   |some a,some c=>some (.fn f a c,eW env first.toList∧eW env aQ.toList)
   |_,_=>none
 | .call { callee := .builtin .len, args := ⟨[x]⟩, argTypes := ⟨[t]⟩ } => match rdv env x, T.get t with
   |some (.prim (.string s)),some ⟨.str,_,_,_⟩=>some (.int s.size,rdn env x)
   |some .nils,some ⟨.slice _,_,_,_⟩=>some (.int 0,rdn env x)
   |_,_=>none
 | .call { callee := .builtin .max, args := ⟨[x, y]⟩, argTypes := _ } => match rdv env x, rdv env y with
   |some (.prim (.int k a)),some (.prim (.int k' b))=>if k=k' then some (.prim (.int k (Max.max a b)),rdn env x∧rdn env y) else none
   |_,_=>none
 | .call { callee := .builtin .min, args := ⟨[x, y]⟩, argTypes := _ } => match rdv env x, rdv env y with
   |some (.prim (.int k a)),some (.prim (.int k' b))=>if k=k' then some (.prim (.int k (Min.min a b)),rdn env x∧rdn env y) else none
   |_,_=>none
 |_=>none
theorem PRun.step {P:Program} {T:Tab} (hT:T.Ok P) {o:Oper} {env:Env} {σ:ae} {v:AV} {c:Prop} (h:HC T env σ o=some (v,c)) (hc:c):PRun P o env σ v:=by
 unfold HC at h;split at h
 case h_1 x ho =>
  split at h
  · rename_i u hu;simp only[Option.some.injEq,Prod.mk.injEq] at h;obtain⟨rfl,rfl⟩:=h;exact PRun.K7 ho hu hc
  · simp at h
 case h_2 x ho =>
  split at h
  · rename_i u hu;simp only[Option.some.injEq,Prod.mk.injEq] at h;obtain⟨rfl,rfl⟩:=h;exact PRun.Ic ho hu hc
  · simp at h
 case h_3 c' x ho =>
  split at h
  · rename_i t u h1 h2;simp only[Option.some.injEq,Prod.mk.injEq] at h;obtain⟨rfl,rfl⟩:=h;exact PRun.andW ho h1 hc.1 h2 hc.2
  · simp at h
 case h_4 c' x ho =>
  split at h
  · rename_i t u h1 h2;simp only[Option.some.injEq,Prod.mk.injEq] at h;obtain⟨rfl,rfl⟩:=h;exact PRun.orW ho h1 hc.1 h2 hc.2
  · simp at h
 case h_5 op t x y t' ho =>
  split at h
  · rename_i vx vy hx hy;split at h
    · rename_i r c' hr;simp only[Option.some.injEq,Prod.mk.injEq] at h;obtain⟨rfl,rfl⟩:=h;exact PRun.wY hT ho (Rd.w hx hc.1) (Rd.w hy hc.2.1) hr hc.2.2
    · simp at h
  · simp at h
 case h_6 t x ho =>
  split at h
  · rename_i a ha;simp only[Option.some.injEq,Prod.mk.injEq] at h;obtain⟨rfl,rfl⟩:=h;exact PRun.notW ho ha hc
  · simp at h
 case h_7 t x ho =>
  split at h
  · rename_i a ha;simp only[Option.some.injEq,Prod.mk.injEq] at h;obtain⟨rfl,rfl⟩:=h;exact PRun.negW ho ha hc.1 hc.2
  · simp at h
 case h_8 s d x ho =>
  split at h
  · rename_i a li k' _ _ _ hx hs hd;simp only[Option.some.injEq,Prod.mk.injEq] at h;obtain⟨rfl,rfl⟩:=h;exact PRun.HA hT ho hx hc hs hd
  · simp at h
 case h_9 s x f ho =>
  split at h
  · rename_i cs ft off sz hx hf;split at h
    · rename_i cs' hd;simp only[Option.some.injEq,Prod.mk.injEq] at h;obtain⟨rfl,rfl⟩:=h;exact PRun.Ih hT ho hx hc hf hd
    · simp at h
  · rename_i l o' ft off sz hx hf;simp only[Option.some.injEq,Prod.mk.injEq] at h;obtain⟨rfl,rfl⟩:=h;exact PRun.Ii hT ho hx hc hf
  · simp at h
 case h_10 t x ho =>
  split at h
  · rename_i cs li hx hl;split at h
    · rename_i u hu;simp only[Option.some.injEq,Prod.mk.injEq] at h;obtain⟨rfl,rfl⟩:=h;exact PRun.JW hT ho hx hc hl hu
    · simp at h
  · rename_i l off li hx hl;split at h
    · rename_i cs hσ;split at h
      · rename_i u hu;simp only[Option.some.injEq,Prod.mk.injEq] at h;obtain⟨rfl,rfl⟩:=h;exact PRun.JX hT ho hx hc hσ hl hu
      · simp at h
    · simp at h
  · simp at h
 case h_11 t x f ho =>
  split at h
  · rename_i cs ft off sz hx hf;split at h
    · rename_i li hl;split at h
      · rename_i u hu;simp only[Option.some.injEq,Prod.mk.injEq] at h;obtain⟨rfl,rfl⟩:=h;exact PRun.fldW hT ho hx hc hf hl hu
      · simp at h
    · simp at h
  · simp at h
 case h_12 t x y ho =>
  split at h
  · rename_i s k i _ _ _ hx hy hl;simp only[Option.some.injEq,Prod.mk.injEq] at h;obtain⟨rfl,rfl⟩:=h;exact PRun.Ij hT ho hx hc.1 hy hc.2.1 hl hc.2.2
  · simp at h
 case h_13 x k ho =>
  split at h
  · rename_i cs hx;split at h
    · rename_i c' hk;split at h
      · rename_i u hu;simp only[Option.some.injEq,Prod.mk.injEq] at h;obtain⟨rfl,rfl⟩:=h;exact PRun.Ft ho hx hc hk hu
      · simp at h
    · simp at h
  · simp at h
 case h_14 f first aQ ho =>
  split at h
  · rename_i a c' ha hcs;simp only[Option.some.injEq,Prod.mk.injEq] at h;obtain⟨rfl,rfl⟩:=h;exact PRun.Db ho ⟨lM hc.1,lM hc.2⟩ (px ha) (px hcs)
  · simp at h
 case h_15 x t ho =>
  split at h
  · rename_i s _ _ _ hx hl;simp only[Option.some.injEq,Prod.mk.injEq] at h;obtain⟨rfl,rfl⟩:=h;exact PRun.Ig hT ho hx hc hl
  · rename_i e _ _ _ hx hl;simp only[Option.some.injEq,Prod.mk.injEq] at h;obtain⟨rfl,rfl⟩:=h;exact PRun.Ie hT ho hx hc hl
  · simp at h
 case h_16 x y ts ho =>
  split at h
  · rename_i k a k' b hx hy;split at h
    · rename_i hk;subst hk;simp only[Option.some.injEq,Prod.mk.injEq] at h;obtain⟨rfl,rfl⟩:=h;exact PRun.Fs ho hx hc.1 hy hc.2
    · simp at h
  · simp at h
 case h_17 x y ts ho =>
  split at h
  · rename_i k a k' b hx hy;split at h
    · rename_i hk;subst hk;simp only[Option.some.injEq,Prod.mk.injEq] at h;obtain⟨rfl,rfl⟩:=h;exact PRun.minW ho hx hc.1 hy hc.2
    · simp at h
  · simp at h
 case h_18=>simp at h
theorem AWP.Ik {P:Program} {n:Nat} {id:Nat} {l:List Oper} {K:Exit→Env→ae→Prop} {env:Env} {σ:ae}
 (h:∀U:Env→ae→Prop,(∀e s,K .normal e s→U e s)→AOps P n l.toArray U l env σ):AWP P n (.region id l.toArray false) K env σ:=AWP.region (h _ fun _ _ h=>h)
theorem AWP.K8 {P:Program} {n:Nat} {id:Nat} {l:List Oper} {K:Exit→Env→ae→Prop} {env:Env} {σ:ae}
 (hm:P.follows .mixedOrders=true) (hB:Region.lexB .any l.toArray=true) (hd:eF n l.toArray=true)
 (h:∀U:Env→Prop,(∀e,K .normal e σ→U e)→AQ P l.toArray σ U l env):AWP P n (.region id l.toArray true) K env σ:=AWP.zg hm hB hd (h _ fun _ h=>h)
end Go.Ab
/- Maps, ranges over strings, cuts of slices and strings. -/
namespace Go.Ab
def aT {κ α:Type} (ek:κ→Value) (ev:α→AV) (l:List (κ×α)):List (Value×AV):=l.map fun p=>(ek p.1,ev p.2)
theorem cV {κ α:Type} (ek:κ→Value) (ev:α→AV) (l:List (κ×α)):(aT ek ev l).length=l.length:=by simp[aT]
theorem ia {κ α:Type} {ek:κ→Value} {ev:α→AV} {l:List (κ×α)} {i:Nat} {k:Value} {v:AV} (h:(aT ek ev l)[i]? = some (k,v)):∃p,l[i]? = some p∧k=ek p.1∧v=ev p.2:=by
 simp only[aT,zA5,zA6,Prod.mk.injEq] at h;obtain⟨p,h1,h2,h3⟩:=h;exact⟨p,h1,h2.symm,h3.symm⟩
def lk {κ α:Type} [DecidableEq κ]:List (κ×α)→κ→Option α
 |[],_=>none
 |(k',v)::r,k=>if k'=k then some v else lk r k
def ins {κ α:Type} [DecidableEq κ]:List (κ×α)→κ→α→List (κ×α)
 |[],k,v=>[(k,v)]
 |(k',v')::r,k,v=>if k'=k then (k,v)::r else (k',v')::ins r k v
structure KeyLaw (P:Program) (kt:TypeId) {κ:Type} [DecidableEq κ] (ek:κ→Value):Prop where
 check:∀(w:World) (em:Bool) (k:κ),(Instr.checkKey em 10000 kt (ek k)).run P w=.ok () w
 find:∀(w:World) (k:κ) (es:List MapEntry) (ks:List κ),es.map (·.key)=ks.map ek →
  (Instr.findKey kt (ek k) es).run P w=.ok ((ks.findIdx? (fun x=>decide (x=k))).bind fun i=>(es[i]?).map fun e=>(i,e.val)) w
 stays:∀(w:World) (k:κ),(Instr.keyThatStays (ek k) (ek k)).run P w=.ok (ek k) w
theorem lN {κ:Type} [DecidableEq κ] {ek:κ→Value} {d:TypeDesc} (hs:∀a b,Instr.sameNow d (ek a) (ek b)=some (decide (b=a))) (k:κ):∀(es:List MapEntry) (ks:List κ) (j:Nat),es.map (·.key)=ks.map ek →
 Instr.findNow d (ek k) es j=some ((ks.findIdx? (fun x=>decide (x=k))).bind fun i=>(es[i]?).map fun e=>(j+i,e.val))
 |[],[],j,_=>rfl
 |[],_::_,j,h=>by simp at h
 |_::_,[],j,h=>by simp at h
 | e :: es, x :: ks, j, h => by
   simp only[zBt,List.cons.injEq] at h;obtain⟨h1,h2⟩:=h;simp only[Instr.findNow,h1,hs,zDj];by_cases hx:x=k
   · simp[hx]
   · simp only[hx,decide_false,zAz,if_false];rw[lN hs k es ks (j+1) h2];cases ks.findIdx? (fun x=>decide (x=k)) with
     |none=>rfl
     |some i=>simp[zC4,zD0 1 i]
theorem zh {k:IntKind} (a b:Int):Instr.sameNow (.int k) (.int .i64 a) (.int .i64 b)=some (decide (b=a)):=by
 simp only[Instr.sameNow,if_true];congr 1;by_cases h:a=b
 · subst h;simp
 · have h':¬b=a:=fun e=>h e.symm
   simp[h,h']
theorem aL {P:Program} {kt:TypeId} {sz by':Nat} {z:List Z} (hl:LOk P kt ⟨.int .i64,sz,by',z⟩):KeyLaw P kt (fun n:Int=>Value.int .i64 n) where
 check w em k:=by
  show(Instr.checkKey em (9999+1) kt (.int .i64 k)).run P w=_;rw[Instr.checkKey,Sem.run_bind,hl.Fp w];rfl
 find w k es ks h:=by
  unfold Instr.findKey;rw[Sem.run_bind,hl.Fp w];simp only[Result.andThen_ok];rw[lN (ek:=fun n:Int=>Value.int .i64 n) zh k es ks 0 h];simp
 stays w k:=by
  unfold Instr.keyThatStays;have:Instr.sameBits 10000 (.int .i64 k) (.int .i64 k)=true:=by simp[Instr.sameBits]
  rw[if_pos this];rfl
theorem wZ (a b:ByteArray):(a==b)=true↔a=b:=by
 obtain⟨x⟩:=a;obtain⟨y⟩:=b;constructor
 · intro h;have e:x=y:=by simpa using(show(x==y)=true from h)
   rw[e]
 · intro h;cases h;show(x==x)=true;simp
theorem sK {P:Program} {kt:TypeId} {sz by':Nat} {z:List Z} (hl:LOk P kt ⟨.str,sz,by',z⟩):KeyLaw P kt (fun s:ByteArray=>Value.string s) where
 check w em k:=by
  show(Instr.checkKey em (9999+1) kt (.string k)).run P w=_;rw[Instr.checkKey,Sem.run_bind,hl.wT w];rfl
 find w k es ks h:=by
  unfold Instr.findKey;rw[Sem.run_bind,hl.wT w];simp only[Result.andThen_ok];rw[lN (ek:=fun s:ByteArray=>Value.string s) (fun a b=>by
   simp only[Instr.sameNow];congr 1;rw[zAi,wZ];simp only[dEt];exact⟨Eq.symm,Eq.symm⟩) k es ks 0 h]
  simp
 stays w k:=by
  unfold Instr.keyThatStays;have:Instr.sameBits 10000 (.string k) (.string k)=true:=by simp only[Instr.sameBits];exact(wZ k k).2 rfl
  rw[if_pos this];rfl
theorem Df {κ α:Type} [DecidableEq κ] (k:κ):∀(l:List (κ×α)),((l.map (·.1)).findIdx? (fun x=>decide (x=k))).bind (fun i=>l[i]?)=(l.find? (fun p=>decide (p.1=k)))
 |[]=>rfl
 | p :: r => by
   simp only[zBt,zDj,List.find?_cons];by_cases h:p.1=k
   · simp[h]
   · simp only[h,decide_false,zAz,if_false];rw[←Df k r];cases (r.map (·.1)).findIdx? (fun x=>decide (x=k)) with
     |none=>rfl
     |some i=>simp
theorem Am {κ α:Type} [DecidableEq κ] (k:κ):∀(l:List (κ×α)),lk l k=(l.find? (fun p=>decide (p.1=k))).map (·.2)
 |[]=>rfl
 | (k', v) :: r => by
   simp only[lk,List.find?_cons];by_cases h:k'=k
   · simp[h]
   · simp[h,Am k r]
def gH:AV→Option Value
 |.prim v=>some v
 | .agg cs => match exactL cs with
   |some vs=>some (.agg vs.toArray)
   |none=>none
 |_=>none
where exactL:List AV→Option (List Value)
 |[]=>some []
 | .prim v :: r => match exactL r with
   |some vs=>some (v::vs)
   |none=>none
 |_::_=>none
theorem qW {M:Mem} {B:List GB}:∀{cs:List AV} {vs:List Value},gH.exactL cs=some vs→∀{xs:List Value},xs.length=cs.length→(∀(i:Nat) (c:AV),cs[i]? = some c→ag M B c (xs.getD i undef))→xs=vs
 | [], vs, h, xs, hl, _ => by
   simp[gH.exactL] at h;subst h;exact zDc.1 hl
 | c :: r, vs, h, xs, hl, hr => by
   cases xs with
   |nil=>simp at hl
   | cons x xs =>
     cases c<;>simp only[gH.exactL,reduceCtorEq] at h;rename_i v;split at h
     · rename_i vs' h';simp at h;subst h;have h0:=ag.aJ (hr 0 _ rfl);simp at h0;have e:=qW (M:=M) (B:=B) h' (xs:=xs) (by simpa using hl) (fun i c hi=>by simpa using hr (i+1) c (by simpa using hi));rw[h0,e]
     · simp at h
theorem iO {M:Mem} {B:List GB} {u:AV} {v x:Value} (h:gH u=some v) (hx:ag M B u x):x=v:=by
 cases u<;>simp only[gH,reduceCtorEq] at h
 · simp at h;subst h;exact ag.aJ hx
 · split at h
   · rename_i vs hvs;simp at h;subst h;cases hx with
     | agg cs vs' hl hr =>
       have e:=qW (M:=M) (B:=B) hvs (xs:=vs'.toList) (by simpa using hl) (fun i c hi=>by simpa[zA2,List.getD] using hr i c hi);subst e;rfl
   · simp at h
section
variable {P:Program} {n:Nat} {ops:Array Oper} {o:Oper} {env:Env} {σ:ae} {k:Env→ae→Prop} {T:Tab}
theorem EStep.newObj {d:Nat} {g:Nat→GB} {ao:bc} {ob:Obj} {v:Nat→Value} {u:AV} (hg:o.guard=none) (hd:o.dst=some d) (hdn:d<n)
 (bl:∀(G:Gh) (a:Act) (w:World),bf n G env σ a w→(execOp a.eval o).run P w=.ok (.value (v w.heap.size)) (w.alloc ob))
 (hblk:∀b,(g b).block=some b) (bU:∀(M:Mem) (B:List GB) (w:World),w.heap[w.heap.size - 1]? = some ob→M.map (w.heap.size - 1)=none→(∀o,M.cell (w.heap.size - 1) o=none)→0<w.heap.size→cW M B w (g (w.heap.size - 1)) ao)
 (hu:∀(M:Mem) (B:List GB) (b:Nat),B[σ.length]? = some (g b)→ag M B u (v b))
 (hk:k (env.put d u) (σ++[ao])):EStep P n ops o k env σ:=by
 refine EStep.plain hg fun G a w hr=>?_
 unfold OWP;rw[bl G a w hr];have hm:=eV hr.st.ay _ (zAt _);have hs:aC { G with B:=G.B++[g w.heap.size] } (σ++[ao]) (w.alloc ob):=by
  refine hr.st.alloc (hblk _) ?_;have:=bU G.M (G.B++[g w.heap.size]) (w.alloc ob);simp only[World.size_alloc,Nat.add_sub_cancel] at this;exact this (by rw[heap_alloc,if_pos rfl]) hm.2 hm.1 oM
 refine⟨_,_,{ G with B:=G.B++[g w.heap.size] },hk,.upB (BLe.append _ _),?_⟩;rw[hd];have hr':bf n { G with B:=G.B++[g w.heap.size] } env (σ++[ao]) a (w.alloc ob):=⟨hr.size,hr.defers,fun i=>(hr.bh i).mono (Mem.Le.refl _) (BLe.append _ _),hs⟩;exact hr'.put hdn (hu _ _ _ (by simp[←hr.st.len]))
theorem EStep.dn {t:TypeId} {d:Nat} (ho:o.op=.makeMap t none) (hg:o.guard=none) (hd:o.dst=some d) (hdn:decide (d<n)=true) (hk:k (env.put d (.map σ.length)) (σ++[.map []])):EStep P n ops o k env σ :=
 EStep.newObj (g:=.blk) (ob:=.map #[] 0) (v:=fun b=>.map (some b)) hg hd (of_decide_eq_true hdn) (fun G a w hr=>by simp[execOp,ho,Instr.makeMap]) (fun _=>rfl)
  (fun M B w hb hm hc _=>.map _ [] #[] 0 hb rfl sMp sMp hm ⟨rfl,by simp⟩) (fun M B b hb=>.map _ b hb) hk
theorem EStep.Dg (hT:T.Ok P) {t:TypeId} {x:Operand} {d:Nat} {kd:IntKind} {i:Int} {kt et:TypeId} {s1 b1:Nat} {z:List Z} (ho:o.op=.makeMap t (some x)) (hg:o.guard=none) (hd:o.dst=some d) (hdn:decide (d<n)=true) (hx:rdv env x=some (.prim (.int kd i))) (nx:rdn env x)
 (hl:T.get t=some ⟨.map kt et,s1,b1,z⟩) (hk:k (env.put d (.map σ.length)) (σ++[.map []])):EStep P n ops o k env σ :=
 EStep.newObj (g:=.blk) (ob:=.map #[] 0) (v:=fun b=>.map (some b)) hg hd (of_decide_eq_true hdn) (fun G a w hr=>by
  have h1:=ag.aJ (hr.rd (Rd.w hx nx));simp[execOp,ho,Instr.makeMap,(LOk.of (hT.get hl)).jY w,h1,asInt,asIntOf]) (fun _=>rfl)
  (fun M B w hb hm hc _=>.map _ [] #[] 0 hb rfl sMp sMp hm ⟨rfl,by simp⟩) (fun M B b hb=>.map _ b hb) hk
theorem EStep.Il (hT:T.Ok P) {t:TypeId} {x:Operand} {d:Nat} {s:ByteArray} {s1 b1:Nat} {z:List Z} (ho:o.op=.range t x) (hg:o.guard=none) (hd:o.dst=some d) (hdn:decide (d<n)=true) (hx:rdv env x=some (.str s)) (nx:rdn env x)
 (hl:T.get t=some ⟨.str,s1,b1,z⟩) (hk:k (env.put d (.ptr σ.length 0)) (σ++[.siter s 0])):EStep P n ops o k env σ :=
 EStep.newObj (g:=.blk) (ob:=.stringIter s 0) (v:=fun b=>.pointer (some ⟨b,0,none⟩)) hg hd (of_decide_eq_true hdn) (fun G a w hr=>by
  have h1:=ag.aJ (hr.rd (Rd.w hx nx));simp[execOp,ho,Instr.range,(LOk.of (hT.get hl)).wT w,h1]) (fun _=>rfl)
  (fun M B w hb _ _ _=>.siter _ s 0 hb) (fun M B b hb=>.ptr _ 0 b hb) hk
theorem heap_set (w:World) (b:Nat) (ob:Obj) (hb:b<w.heap.size) (k:Nat):({ w with heap:=w.heap.setIfInBounds b ob }:World).heap[k]? = if k=b then some ob else w.heap[k]? := by
 show(w.heap.setIfInBounds b ob)[k]? = _;rw[Array.getElem?_setIfInBounds];by_cases h:k=b
 · subst h;simp[hb]
 · simp[h,Ne.symm h]
theorem fY {M:Mem} {w:World} (h:dc M w) {b:Nat} {ob:Obj} (hb:w.heap[b]? = some ob) (h1:∀c T f,ob≠.cells c T f):∀o,M.cell b o=none:=by
 intro o;cases hc:M.cell b o with
 |none=>rfl
 | some v =>
   have:=h.1 _ _ _ hc;simp only[World.cell?,hb] at this;cases ob<;>simp at this;exact absurd rfl (h1 _ _ _)
theorem cQ {M:Mem} {w:World} (h:dc M w) {b:Nat} {ob:Obj} (hb:w.heap[b]? = some ob) (h1:∀es c,ob≠.map es c):M.map b=none:=by
 cases hc:M.map b with
 |none=>rfl
 | some es =>
   obtain⟨c,h2⟩:=h.2 _ _ hc;rw[hb] at h2;simp at h2;exact absurd h2 (h1 _ _)
theorem EStep.K9 {it:Operand} {d l pos:Nat} {s:ByteArray} (ho:o.op=.next it true) (hg:o.guard=none) (hd:o.dst=some d) (hdn:decide (d<n)=true) (hx:rdv env it=some (.ptr l 0)) (nx:rdn env it)
 (hσ:σ[l]? = some (.siter s pos)) (hp:pos<s.size) (hk:k (env.put d (.tup [.b true,.int pos,.prim (.int .i32 (Utf8.decode s pos).1)])) (σ.set l (.siter s (pos+(Utf8.decode s pos).2)))):EStep P n ops o k env σ:=by
 refine EStep.plain hg fun G a w hr=>?_
 have h1:=hr.rd (Rd.w hx nx);generalize hA:a.eval it=y at h1;cases h1 with
 | ptr _ _ b hb =>
   have cP:=hr.st.bB l _ _ hb hσ;cases cP with
   | siter _ _ _ hbb =>
     have hlt:=(hr.st.fresh l _ b hb rfl).2;have bl:(execOp a.eval o).run P w=.ok (.value (.tuple #[.bool true,goInt pos,.int .i32 (Utf8.decode s pos).1])) { w with heap:=w.heap.setIfInBounds b (.stringIter s (pos+(Utf8.decode s pos).2)) }:=by
      simp only[execOp,ho,hA,Instr.next];simp[getObj,setObj,Sem.run,hbb,hp]
     unfold OWP;rw[bl]
     have hs:=hr.st.upd (o':=.siter s (pos+(Utf8.decode s pos).2)) (w':={ w with heap:=w.heap.setIfInBounds b (.stringIter s (pos+(Utf8.decode s pos).2)) }) hb rfl sMp (fun k hk=>by rw[heap_set w b _ hlt,if_neg hk]) (.siter b s _ (by rw[heap_set w b _ hlt,if_pos rfl]))
      ⟨fY hr.st.ay hbb (by intros;simp),cQ hr.st.ay hbb (by intros;simp)⟩ cD.r
     refine⟨_,_,G,hk,Gh.Le.refl G,?_⟩;rw[hd];have hr':bf n G env (σ.set l (.siter s (pos+(Utf8.decode s pos).2))) a { w with heap:=w.heap.setIfInBounds b (.stringIter s (pos+(Utf8.decode s pos).2)) }:=⟨hr.size,hr.defers,hr.bh,hs⟩;refine hr'.put (of_decide_eq_true hdn) (.tup _ _ rfl fun i c hi=>?_)
     match i,hi with
     |0,hi=>simp at hi;subst hi;exact .prim _
     |1,hi=>simp at hi;subst hi;exact .prim _
     |2,hi=>simp at hi;subst hi;exact .prim _
     |i+3,hi=>simp at hi
theorem PRun.Im {it:Operand} {l pos:Nat} {s:ByteArray} (ho:o.op=.next it true) (hx:rdv env it=some (.ptr l 0)) (nx:rdn env it) (hσ:σ[l]? = some (.siter s pos)) (hp:¬pos<s.size):PRun P o env σ (.tup [.b false]) :=
 .of fun G a w hs hv=>by
  have h1:=rd (Rd.w hx nx) (by simp[ho,Op.operands]) hv;generalize hA:a.eval it=y at h1;cases h1 with
  | ptr _ _ b hb =>
    have cP:=hs.bB l _ _ hb hσ;cases cP with
    | siter _ _ _ hbb =>
      refine⟨.tuple #[.bool false],?_,.tup _ _ rfl fun i c hi=>?_⟩
      · simp only[execOp,ho,hA,Instr.next];simp[getObj,Sem.run,hbb,hp]
      · match i,hi with
        |0,hi=>simp at hi;subst hi;exact .prim _
        |i+1,hi=>simp at hi
theorem EStep.fu {κ α:Type} [DecidableEq κ] {ek:κ→Value} {ev:α→AV} {t kt et:TypeId} {m x y:Operand} {l:Nat} {al:List (κ×α)} {key:κ} {v:α} {uk:AV} {s1 b1:Nat} {z:List Z}
 (K:KeyLaw P kt ek) (hl:LOk P t ⟨.map kt et,s1,b1,z⟩) (ho:o.op=.mapUpdate t m x y) (hg:o.guard=none) (hdn:eu n o=true) (hm:Rd env m (.map l)) (hσ:σ[l]? = some (.map (aT ek ev al)))
 (hx:Rd env x uk) (hex:gH uk=some (ek key)) (hy:Rd env y (ev v)) (hk:k (env.br o.dst .any) (σ.set l (.map (aT ek ev (ins al key v))))):EStep P n ops o k env σ:=by
 refine EStep.plain hg fun G a w hr=>?_
 have h1:=hr.rd hm;have h2:=iO hex (hr.rd hx);have h3:=hr.rd hy;generalize hA:a.eval m=ym at h1;cases h1 with
 | map _ b hb =>
   have cP:=hr.st.bB l _ _ hb hσ;cases cP with
   | map _ _ es clock hbb hlen hkk hrr hmm hst =>
     have hlt:=(hr.st.fresh l _ b hb rfl).2;rw[cV] at hlen;have A8:es.toList.map (·.key)=(al.map (·.1)).map ek:=by
      apply zCh;intro i;rw[zA5,zD9,zA5,zB7];rcases zAa i es.size with h|h
      · have h':i<al.length:=oM;rw[zAk h,zA1 h'];simp only[zBa,Function.comp];congr 1;exact hkk i (ek al[i].1) (ev al[i].2) _ (by simp[aT,zA5,zA1 h']) (zAk h)
      · rw[zAj h,zA3 oM];rfl
     have dA:=K.find w key es.toList _ A8
     have step:∀(es':Array MapEntry) (eX:Nat) (al':List (κ×α)),(eX=es'.size∧∀(i:Nat) (e:MapEntry),es'[i]? = some e→e.born=i)→(execOp a.eval o).run P w=.ok .skip { w with heap:=w.heap.setIfInBounds b (.map es' eX) }→ins al key v=al' →
      es'.size=al'.length→(∀(i:Nat) p e,al'[i]? = some p→es'[i]? = some e→e.key=ek p.1∧ag G.M G.B (ev p.2) e.val) →
      fb P o a (fun a' w'=>∃aw σ' G',k aw σ'∧G.Le G'∧bf n G' aw σ' a' w') ((execOp a.eval o).run P w):=by
      intro es' eX al' hst' bl hins hsz bU;rw[bl]
      have hs:=hr.st.upd (o':=.map (aT ek ev al')) (w':={ w with heap:=w.heap.setIfInBounds b (.map es' eX) }) hb rfl sMp (fun k hk=>by rw[heap_set w b _ hlt,if_neg hk])
       (.map b _ es' eX (by rw[heap_set w b _ hlt,if_pos rfl]) (by rw[cV];exact hsz) (fun i k' v' e h4 h5=>by
        obtain⟨p,h6,rfl,rfl⟩:=ia h4;exact(bU i p e h6 h5).1) (fun i k' v' e h4 h5=>by
        obtain⟨p,h6,rfl,rfl⟩:=ia h4;exact(bU i p e h6 h5).2) hmm hst')
       ⟨fY hr.st.ay hbb (by intros;simp),hmm⟩ cD.r
      refine⟨_,_,G,hk,Gh.Le.refl G,?_⟩;rw[hins];have hr':bf n G env (σ.set l (.map (aT ek ev al'))) a { w with heap:=w.heap.setIfInBounds b (.map es' eX) }:=⟨hr.size,hr.defers,hr.bh,hs⟩;exact hr'.br (cu hdn) (.any _)
     have hold:∀(i:Nat) p e,al[i]? = some p→es[i]? = some e→e.key=ek p.1∧ag G.M G.B (ev p.2) e.val:=fun i p e h4 h5 =>
      ⟨hkk i _ (ev p.2) e (by simp[aT,h4]) h5,hrr i (ek p.1) _ e (by simp[aT,h4]) h5⟩
     -- the place of the key
     have JZ:∀(al:List (κ×α)),(match (al.map (·.1)).findIdx? (fun x=>decide (x=key)) with|some i=>ins al key v=al.set i (key,v)∧i<al.length∧(∀p,al[i]? = some p→p.1=key)|none=>ins al key v=al++[(key,v)]):=by
      intro al;induction al with
      |nil=>rfl
      | cons p r ih =>
        obtain⟨k',v'⟩:=p;simp only[zBt,zDj];by_cases hkx:k'=key
        · simp[hkx,ins]
        · simp only[hkx,decide_false,zAz,if_false,ins];cases hf:(r.map (·.1)).findIdx? (fun x=>decide (x=key)) with
          |none=>simp only[hf] at ih;simp[ih]
          |some i=>simp only[hf] at ih;simp[ih.1,ih.2.1];exact ih.2.2 _ (zA1 ih.2.1)
     have hp:=JZ al;unfold OWP;cases hf:(al.map (·.1)).findIdx? (fun x=>decide (x=key)) with
     | none =>
       simp only[hf] at hp dA;refine step (es.push { key:=ek key,val:=a.eval y,born:=clock }) (clock+1) _ ⟨by simp[hst.1],fun i e he=>?_⟩ ?_ hp (by simp[hlen]) ?_
       · rw[zDb] at he;split at he
         · rename_i hi;simp at he;subst he;rw[hi];exact hst.1
         · exact hst.2 i e he
       · simp only[execOp,ho,hA,h2,Instr.mapUpdate];simp[hl.jY w,getObj,setObj,Sem.run,hbb,K.check,dA]
       · intro i p e h4 h5;rw[zDb] at h5;split at h5
         · rename_i hi;simp at h5;subst h5;rw[zA7 oM,hi,hlen] at h4;simp at h4;subst h4;exact⟨rfl,h3⟩
         · rename_i hi;have:i<es.size:=by
            rcases zAa i es.size with h|h
            · exact h
            · simp[zAj h] at h5
           rw[zA8 oM] at h4;exact hold i p e h4 h5
     | some j =>
       simp only[hf] at hp dA;obtain⟨hp1,hp2,hp3⟩:=hp;have hjs:j<es.size:=oM;have Fu:es[j].key=ek key:=by
        have:=(hold j al[j] es[j] (zA1 hp2) (zAk hjs)).1;rw[this,hp3 _ (zA1 hp2)]
       refine step (es.modify j fun e=>{ e with key:=ek key,val:=a.eval y }) clock _ ⟨by simp[hst.1],fun i e he=>?_⟩ ?_ hp1 (by simp[hlen]) ?_
       · rw[zBr] at he;split at he
         · simp only[zA6] at he;obtain⟨e0,h1,rfl⟩:=he;exact hst.2 i e0 h1
         · exact hst.2 i e he
       · simp only[execOp,ho,hA,h2,Instr.mapUpdate];have e1:(Option.bind (some j) fun i=>(es.toList[i]?).map fun e=>(i,e.val))=some (j,es[j].val):=by simp[hjs]
         rw[e1] at dA;simp[hl.jY w,getObj,setObj,Sem.run,hbb,K.check,dA,hjs,Fu,K.stays]
       · intro i p e h4 h5;rw[zBr] at h5;by_cases hij:j=i
         · subst hij;rw[zAf hp2] at h4;simp at h4;subst h4;simp[hjs] at h5;subst h5;exact⟨rfl,h3⟩
         · rw[zAp hij] at h4;rw[if_neg hij] at h5;exact hold i p e h4 h5
def lO (li:LI):AV:=if li.lt.isAgg then .agg (li.zero.map Z.av) else (li.zero.map Z.av).headD .any
theorem sL {li:LI} (h1:li.lt.isAgg=false→∃z,li.zero=[z]) (M:Mem) (B:List GB):ag M B (lO li) li.aX:=by
 have hz:∀z:Z,ag M B z.av z.val:=fun z=>by cases z<;>first|exact .prim _|exact .nils|exact .imapz
 unfold lO LI.aX;cases ha:li.lt.isAgg with
 | true =>
   refine .agg _ _ sMp fun i c hi=>?_
   simp only[zA5,zA6] at hi;obtain⟨z,h2,rfl⟩:=hi;simpa[zA2,h2] using hz z
 | false =>
   obtain⟨z,h2⟩:=h1 ha;rw[h2];exact hz z
def j7 (kt et:TypeId) (kv:Value) (ok:Bool) (es:Array MapEntry):Sem Value:=do
 Instr.checkKey es.isEmpty 10000 kt kv
 let (v,f) ←match ←Instr.findKey kt kv es.toList with
  |some (_,v)=>pure (v,true)
  |none=>pure (←zeroValue et,false)
 pure (if ok then .tuple #[v,.bool f] else v)
theorem jF {κ α:Type} [DecidableEq κ] {ek:κ→Value} {ev:α→AV} {kt et:TypeId} {al:List (κ×α)} {key:κ} {zv:α} {ok:Bool} {le:LI} {M:Mem} {B:List GB} (w:World)
 (K:KeyLaw P kt ek) (he:LOk P et le) (hz:lO le=ev zv) (es:Array MapEntry) (hsz:es.size=al.length) (bU:∀(i:Nat) p e,al[i]? = some p→es[i]? = some e→e.key=ek p.1∧ag M B (ev p.2) e.val) :
 ∃x,(j7 kt et (ek key) ok es).run P w=.ok x w∧ag M B (if ok then .tup [ev ((lk al key).getD zv),.b (lk al key).isSome] else ev ((lk al key).getD zv)) x:=by
 have hzr:ag M B (ev zv) le.aX:=hz▸sL he.one _ _;have A8:es.toList.map (·.key)=(al.map (·.1)).map ek:=by
  apply zCh;intro i;rw[zA5,zD9,zA5,zB7];rcases zAa i es.size with h|h
  · have h':i<al.length:=oM;rw[zAk h,zA1 h'];simp only[zBa,Function.comp];congr 1;exact(bU i _ _ (zA1 h') (zAk h)).1
  · rw[zAj h,zA3 oM];rfl
 have dA:=K.find w key es.toList _ A8;have hlk:lk al key=(((al.map (·.1)).findIdx? (fun x=>decide (x=key))).bind (fun i=>al[i]?)).map (·.2):=by rw[Am,Df]
 have fin:∀(v:Value) (f:Bool),ag M B (ev ((lk al key).getD zv)) v→(lk al key).isSome=f→ag M B (if ok then .tup [ev ((lk al key).getD zv),.b (lk al key).isSome] else ev ((lk al key).getD zv)) (if ok then .tuple #[v,.bool f] else v):=by
  intro v f h3 h4;cases ok with
  |false=>simpa using h3
  | true =>
    simp only[if_true];refine .tup _ _ rfl fun i c hi=>?_
    match i,hi with
    |0,hi=>simp at hi;subst hi;exact h3
    |1,hi=>simp at hi;subst hi;rw[h4];exact .prim _
    |i+2,hi=>simp at hi
 cases hf:(al.map (·.1)).findIdx? (fun x=>decide (x=key)) with
 | none =>
   rw[hf] at hlk dA;refine⟨if ok then .tuple #[le.aX,.bool false] else le.aX,?_,fin _ _ (by rw[hlk];exact hzr) (by rw[hlk];rfl)⟩;unfold j7;simp[K.check,dA,he.jg w]
 | some j =>
   rw[hf] at hlk dA;have hj:j<al.length:=by
    have h5:=(zCi.1 hf).1;simpa using h5
   have hjs:j<es.size:=oM;have h3:=(bU j _ _ (zA1 hj) (zAk hjs)).2;have e2:lk al key=some al[j].2:=by rw[hlk];simp[hj]
   have e1:(Option.bind (some j) fun i=>(es.toList[i]?).map fun e=>(i,e.val))=some (j,es[j].val):=by simp[hjs]
   rw[e1] at dA;refine⟨if ok then .tuple #[es[j].val,.bool true] else es[j].val,?_,fin _ _ (by rw[e2];exact h3) (by rw[e2];rfl)⟩;unfold j7;simp[K.check,dA]
theorem PRun.lookup {κ α:Type} [DecidableEq κ] {ek:κ→Value} {ev:α→AV} {t kt et:TypeId} {m x:Operand} {al:List (κ×α)} {key:κ} {zv:α} {uk um:AV} {ok:Bool} {s1 b1:Nat} {z:List Z} {le:LI}
 (K:KeyLaw P kt ek) (hl:LOk P t ⟨.map kt et,s1,b1,z⟩) (he:LOk P et le) (hz:lO le=ev zv) (ho:o.op=.lookup t m x ok) (hm:Rd env m um)
 (hum:um=.imap (aT ek ev al)∨∃l,um=.map l∧σ[l]? = some (.map (aT ek ev al)))
 (hx:Rd env x uk) (hex:gH uk=some (ek key)):PRun P o env σ (if ok then .tup [ev ((lk al key).getD zv),.b (lk al key).isSome] else ev ((lk al key).getD zv)):=by
 refine .of fun G a w hs hv=>?_
 have h1:=rd hm (by simp[ho,Op.operands]) hv;have h2:=iO hex (rd hx (by simp[ho,Op.operands]) hv)
 have run:∀(mv:Value) (es:Array MapEntry) (v:Value),a.eval m=mv→(mv=.map none∧es=#[]∨∃b clock,mv=.map (some b)∧w.heap[b]? = some (.map es clock))→(j7 kt et (ek key) ok es).run P w=.ok v w →
  (execOp a.eval o).run P w=.ok (.value v) w:=by
  intro mv es v hA hmv ht;unfold j7 at ht;rcases hmv with ⟨rfl,rfl⟩|⟨b,clock,rfl,hb⟩
  · simp only[execOp,ho,hA,h2,Instr.lookup];rw[Sem.run_bind,Sem.run_bind,hl.jY w];simp only[Result.andThen_ok];rw[Sem.run_bind,Sem.run_pure];simp only[Result.andThen_ok];erw [ht];rfl
  · simp only[execOp,ho,hA,h2,Instr.lookup];rw[Sem.run_bind,Sem.run_bind,hl.jY w];simp only[Result.andThen_ok];have hg:(getObj b).run P w=.ok (.map es clock) w:=by simp[getObj,Sem.run,hb]
    rw[Sem.run_bind,hg];simp only[Result.andThen_ok];rw[Sem.run_bind,Sem.run_pure];simp only[Result.andThen_ok];erw [ht];rfl
 rcases hum with rfl|⟨l,rfl,hσ⟩
 · generalize hA:a.eval m=y at h1;generalize hkv:aT ek ev al=kvs at h1;cases h1 with
   | imapz =>
     have:al.length=0:=by rw[←cV ek ev al,hkv];rfl
     obtain⟨v,h5,h6⟩:=jF (M:=G.M) (B:=G.B) (ok:=ok) (key:=key) w K he hz #[] (by rw[this];rfl) (fun i p e _ h=>by simp at h);exact⟨v,run _ _ _ hA (.inl ⟨rfl,rfl⟩) h5,h6⟩
   | imap _ b es hmm hlen hkk hrr =>
     subst hkv;obtain⟨clock,hb⟩:=hs.ay.2 _ _ hmm;rw[cV] at hlen;obtain⟨v,h5,h6⟩:=jF (M:=G.M) (B:=G.B) (ok:=ok) (key:=key) w K he hz es hlen (fun i p e h4 h5=>⟨hkk i _ (ev p.2) e (by simp[aT,h4]) h5,(hrr i (ek p.1) _ e (by simp[aT,h4]) h5).mono (Mem.Le.refl _) (BLe.nil _)⟩);exact⟨v,run _ _ _ hA (.inr ⟨b,clock,rfl,hb⟩) h5,h6⟩
 · generalize hA:a.eval m=y at h1;cases h1 with
   | map _ b hb =>
     have cP:=hs.bB l _ _ hb hσ;cases cP with
     | map _ _ es clock hbb hlen hkk hrr hmm =>
       rw[cV] at hlen;obtain⟨v,h5,h6⟩:=jF (M:=G.M) (B:=G.B) (ok:=ok) (key:=key) w K he hz es hlen (fun i p e h4 h5=>⟨hkk i _ (ev p.2) e (by simp[aT,h4]) h5,hrr i (ek p.1) _ e (by simp[aT,h4]) h5⟩);exact⟨v,run _ _ _ hA (.inr ⟨b,clock,rfl,hbb⟩) h5,h6⟩
theorem PRun.sM {κ α:Type} {ek:κ→Value} {ev:α→AV} {x:Operand} {t kt et:TypeId} {al:List (κ×α)} {um:AV} {s1 b1:Nat} {z:List Z} (ho:o.op=.call { callee:=.builtin .len,args:=#[x],argTypes:=#[t] })
 (hx:Rd env x um) (hum:um=.imap (aT ek ev al)∨∃l,um=.map l∧σ[l]? = some (.map (aT ek ev al))) (hl:LOk P t ⟨.map kt et,s1,b1,z⟩):PRun P o env σ (.int al.length):=by
 refine .of fun G a w hs hv=>⟨.int .i64 al.length,?_,.prim _⟩
 have h1:=rd hx (by simp[ho,Op.operands,Call.operands]) hv;rcases hum with rfl|⟨l,rfl,hσ⟩
 · generalize hA:a.eval x=y at h1;generalize hkv:aT ek ev al=kvs at h1;cases h1 with
   | imapz =>
     have:al.length=0:=by rw[←cV ek ev al,hkv];rfl
     simp[execOp,ho,hA,resolve,invoke,builtin,Builtin.len_,hl.jY w,goInt,this]
   | imap _ b es hmm hlen hkk hrr =>
     subst hkv;obtain⟨clock,hb⟩:=hs.ay.2 _ _ hmm;rw[cV] at hlen;simp[execOp,ho,hA,resolve,invoke,builtin,Builtin.len_,hl.jY w,goInt,getObj,Sem.run,hb,hlen]
 · generalize hA:a.eval x=y at h1;cases h1 with
   | map _ b hb =>
     have cP:=hs.bB l _ _ hb hσ;cases cP with
     | map _ _ es clock hbb hlen hkk hrr hmm =>
       rw[cV] at hlen;simp[execOp,ho,hA,resolve,invoke,builtin,Builtin.len_,hl.jY w,goInt,getObj,Sem.run,hbb,hlen]
end
end Go.Ab
