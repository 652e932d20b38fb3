/- Parts of the proof. No statement is proved here. -/
import Derived.Ground.SlgmProg
import Derived.Shelf.SortM.Plain
import Derived.Shelf.SortM.SortNone
import Derived.Test.YtmjdoencpjpegaaGreatDoorChecked
import Derived.Test.YtmjdoencpjpegaaGreatDoorP7
set_option linter.unusedVariables false
set_option linter.unusedSimpArgs false
set_option maxHeartbeats 16000000
set_option maxRecDepth 20000
namespace Go.Ab
section
variable {P:Program} {n:Nat} {ops:Array Oper} {o:Oper} {env:Env} {σ:aa} {T:Tab} {k:Env→aa→Prop}
theorem AWP.LJ {c:Code} {K:Exit→Env→aa→Prop} {d:Nat} (sz:Nat) (hd:env d=.nils) (hk:AWP P n c K (env.put d (.sl sz [] (.own σ.length))) (σ++[.arr sz 0 []])):AWP P n c K env σ:=by
 intro G a w hr;have hl:(G.B++[GB.own none 0 0])[σ.length]? = some (.own none 0 0):=by rw[←hr.st.len];simp
 have hs0:=hr.st.fX sz;have hs:az { G with B:=G.B++[.own none 0 0] } (σ++[.arr sz 0 []]) w:=by
  have:=az.ku (l:=σ.length) (o:=.own sz 0) (o':=.arr sz 0 []) hs0 sMp (fun g hg _=>by
   rw[hl] at hg;simp at hg;subst hg;exact .arrz sz 0)
  simpa using this
 have hr':bd n { G with B:=G.B++[.own none 0 0] } (env.put d (.sl sz [] (.own σ.length))) (σ++[.arr sz 0 []]) a w:=by
  refine⟨hr.size,hr.defers,fun i=>?_,hs⟩;simp only[Env.put];split
  · rename_i e;subst e;have h2:=hr.bf i;rw[hd] at h2;generalize a.tmps.getD i undef=X at h2 ⊢;cases h2;exact .slz sz _ ⟨none,0,0,hl,zAt _,fun _=>⟨rfl,rfl⟩⟩
  · exact(hr.bf i).mono (Mem.Le.refl _) (BLe.append _ _)
 refine wpIn_mono (hk { G with B:=G.B++[.own none 0 0] } a w hr') ?_;rintro x a' w' ⟨e',s',G',h1,h2,h3⟩;exact⟨e',s',G',h1,Gh.Le.trans (G':={ G with B:=G.B++[.own none 0 0] }) (.upB (BLe.append _ _)) h2,h3⟩
theorem EStep.EK (hT:T.Ok P) {s x:Operand} {t tx e:TypeId} {d l sz ver:Nat} {es es2:List (List AV)} {u S:AV} {s1 b1:Nat} {z:List Z} {le:LI} (ho:o.op=.call { callee:=.builtin .append,args:=#[s,x],argTypes:=#[t,tx] })
 (hg:o.guard=none) (hd:o.dst=some d) (hdn:d<n) (hs:Rd env s S) (hS0:S=.sla l sz 0 es.length ver∧es≠[]∨S=.sl sz [] (.own l)∧es=[]∧ver=0) (hσ:σ[l]? = some (.arr sz ver es)) (hx:Rd env x u) (gp:fy T tx sz u es2) (cC:0<es2.length)
 (hl:LOk P t ⟨.slice e,s1,b1,z⟩) (he:LOk P e le) (hsz:le.size=sz) (hz0:le.zero.length=le.size) (hbound:(es.length+es2.length) * le.bytes≤140737488355328) (hb2:es.length+es2.length≤9223372036854775807)
 (hk:k (env.put d (.sla l sz 0 (es.length+es2.length) (ver+1))) (σ.set l (.arr sz (ver+1) (es++es2)))):EStep P n ops o k env σ:=by
 refine EStep.plain hg fun G a w hr=>?_
 have h1:=hr.rd hs;obtain⟨news,hS,hN⟩:=gp.src hT hr.st.ax (hr.rd hx);generalize hA:a.eval s=sv at h1;obtain⟨i,hi1,hi2,hi3,hi4⟩:=he.info;have fe:=hl.dI;have hS':Src P i.size tx (a.eval x) es2.length news w:=by rw[hi2,hsz];exact hS
 have hNs:news.length=es2.length * sz:=by have:=hN.1;simpa using this
 obtain⟨ob,cap,hB,hne,hob⟩:=cJ hr.st hσ;have cw:=hr.st.aZ l _ _ hB hσ;have hsv:sv=.slice (ob.map fun b=>⟨b,0,none⟩) es.length cap:=by
  rcases hS0 with ⟨rfl,hn⟩|⟨rfl,rfl,rfl⟩
  · cases h1 with
    | sla _ _ _ _ _ a c hr =>
      obtain⟨ob',dW,n',g1,g2,g3⟩:=hr;rw[hB] at g1;simp at g1;obtain⟨rfl,rfl,rfl⟩:=g1;obtain⟨g4,g5⟩:=g3 rfl;rcases g5 with g5|⟨rfl,rfl⟩
      · exact absurd (zAv g5) hn
      · simp
  · cases h1 with
    | sl _ _ _ b off dW f hz hm hr' hc ht =>
      obtain⟨ob',cp,n',g1,g2,g3⟩:=ht;rw[hB] at g1;simp at g1;obtain⟨rfl,rfl,rfl⟩:=g1;obtain⟨g4,g5⟩:=g3 rfl;cases ob with
      |none=>simp at g4
      | some b' =>
        simp at g4;obtain⟨rfl,rfl⟩:=g4;subst g5;rfl
    | slz _ _ ht =>
      obtain⟨ob',cp,n',g1,g2,g3⟩:=ht;rw[hB] at g1;simp at g1;obtain⟨rfl,rfl,rfl⟩:=g1;obtain⟨g4,g5⟩:=g3 rfl;cases ob with
      |none=>subst g5;rfl
      |some b'=>simp at g4
 subst hsv;have iK:∀b' c',(GB.own ob cap ver).Le (.own b' c' (ver+1)):=fun b' c'=>.inr ⟨_,_,_,rfl,zCd _⟩
 have hlB:l<G.B.length:=by
  rcases zAb l G.B.length with h'|h'
  · exact h'
  · simp[zA2 h'] at hB
 have hzc:le.aO.cells.size=sz:=by
  unfold LI.aO;cases ha:le.lt.isAgg with
  |true=>simp[Value.cells,hz0,hsz]
  | false =>
    obtain⟨z',hz'⟩:=he.one ha;rw[hz'] at hz0 ⊢;simp at hz0;rw[←hsz,←hz0];cases z'<;>rfl
 -- the end: the new place
 have fin:∀(b c':Nat) (w':World),az { G with B:=G.B.set l (.own (some b) c' (ver+1)) } (σ.set l (.arr sz (ver+1) (es++es2))) w'→es.length+es2.length≤c' →
  ∃au σ' G',k au σ'∧G.Le G'∧bd n G' au σ' (a.put o.dst (.slice (some ⟨b,0,none⟩) (es.length+es2.length) c')) w':=fun b c' w' hs2 hle=>by
  have hG:G.Le { G with B:=G.B.set l (.own (some b) c' (ver+1)) }:=.upB (BLe.set hB (iK _ _));refine⟨_,_,_,hk,hG,?_⟩;rw[hd];have hr':bd n { G with B:=G.B.set l (.own (some b) c' (ver+1)) } env (σ.set l (.arr sz (ver+1) (es++es2))) a w':=hr.later hG hs2;exact hr'.put hdn (.sla _ sz 0 _ (ver+1) _ _ ⟨some b,c',ver+1,by rw[zAh hlB],zAt _,fun _=>⟨oM,.inr ⟨oM,by simp⟩⟩⟩)
 have Jh:∀b,ob=some b→∀x∈es++es2,x.length=sz:=fun b hb x hx=>by
  obtain⟨c,T',fr,_,_,_,_,hz,_,_⟩:=hob b hb;exact(zAy.1 hx).elim (hz x) (hN.2.1 x)
 by_cases iw:es.length+es2.length≤cap
 · cases ob with
   | none =>
     exfalso;cases cw with
     |arrz=>simp only[zAi] at iw;omega
   | some b =>
     obtain⟨c,T',fr,hb,hf,hlc,hn,hz,bQ,hm⟩:=hob b rfl;have hcs:(es.length+es2.length) * sz≤c.size:=by rw[hlc];exact zB6 _ iw
     rw[zBf] at hcs;obtain⟨w',c',r1,r2,r3,r4,r5,r6,kY⟩:=dB (P:=P) (b:=b) (off:=es.length * sz) (T:=T') (fr:=fr) news 0 c w hb hf hS.one oM;have bg:=jR (P:=P) w w' t tx o.type e i fe hi1 b 0 es.length cap (a.eval x) es2.length news hS' iw (by rw[hi2,hsz,zC3];exact r1);have ew:(execOp a.eval o).run P w=.ok (.value (.slice (some ⟨b,0,none⟩) (es.length+es2.length) cap)) w':=by simp[execOp,ho,resolve,invoke,builtin,hA,bg]
     unfold OWP;rw[ew];simp only[zC7] at r6;have pq:G.M.map b=none:=cE hr.st.ax hb (by intros;simp);have hok:dg G.M w':=by
      refine⟨fun b2 o v hv=>?_,fun b2 es' hb2'=>?_,hr.st.ax.g⟩
      · have mT:b2≠b:=fun e2=>by subst e2;rw[hm o] at hv;cases hv
        have h2:=hr.st.ax.1 _ _ _ hv;simp only[World.cell?] at h2 ⊢;rw[r3 _ mT];exact h2
      · have mT:b2≠b:=fun e2=>by subst e2;rw[pq] at hb2';cases hb2'
        obtain⟨cl,h2⟩:=hr.st.ax.2 _ _ hb2';exact⟨cl,by rw[r3 _ mT];exact h2⟩
     have hblt:=(hr.st.fresh l _ b hB rfl).2;refine fin b cap w' ?_ iw;refine hr.st.ko (M':=G.M) hB (Mem.Le.refl _) (iK _ _) rfl oM (fun k hk _=>r3 k hk) rfl (fun _ _ _=>rfl) hok (.inl rfl) oM kY ?_;refine .arr b cap sz (ver+1) (es++es2) c' T' fr r4 (by rw[r5];exact hf) (by rw[r5,hlc]) (by simpa using iw) (Jh b rfl) (fun i j x v hi hj=>?_) hm;have hxl:x.length=sz:=Jh b rfl x (zAe hi);have hjs:j<sz:=by
      have:=(zAd.1 hj).1;omega
     rw[r6];rcases zAb i es.length with h|h
     · rw[zA8 h] at hi;rw[if_neg (by have:=ea h hjs;omega)];exact(bQ i j x v hi hj).mono (Mem.Le.refl _) (BLe.set hB (iK _ _))
     · rw[zA7 h] at hi;have Hd:i - es.length<es2.length:=(zAd.1 hi).1;have e1:i * sz+j=es.length * sz+((i - es.length) * sz+j):=by
        rw[←zCg,←zBf];congr 2;omega
       have hlt:=ea Hd hjs;rw[e1,if_pos ⟨oM,by rw[hNs];omega⟩,zCa];have:=hN.2.2 _ j x v hi hj;have e2:news.toArray.getD ((i - es.length) * sz+j) undef=news.getD ((i - es.length) * sz+j) undef:=by simp[List.getD]
       rw[e2] at this;exact this.mono (Mem.Le.refl _) (BLe.nil _)
 · -- a new row
   have holds:∃jj:List Value,jj.length=es.length * sz∧(Builtin.firstCells i.size es.length (.slice (ob.map fun b=>⟨b,0,none⟩) es.length cap)).run P w.drew=.ok jj.toArray w.drew ∧
    (∀x∈es,x.length=sz)∧∀(i j:Nat) (x:List AV) (v:AV),es[i]? = some x→x[j]? = some v→af G.M G.B v (jj.getD (i * sz+j) undef):=by
    cases ob with
    | none =>
      have:es=[]:=by
       rcases es with _|⟨x,es⟩
       · rfl
       · obtain⟨b,hb⟩:=hne sMp;cases hb
      subst this;exact⟨[],by simp,rfl,by simp,fun i j x v h=>by simp at h⟩
    | some b =>
      obtain⟨c,T',fr,hb,hf,hlc,hn,hz,bQ,hm⟩:=hob b rfl;have hcs:es.length * sz≤c.size:=by rw[hlc];exact zB6 _ hn
      refine⟨(List.range (es.length * sz)).map fun k=>c.getD k undef,by simp,?_,hz,fun i j x v hi hj=>?_⟩
      · have:=run_loadCells_list (P:=P) w.drew ⟨b,0,none⟩ ((List.range (es.length * sz)).map fun k=>c.getD k undef) (fun j v hj=>by
         simp only[zA3,zA5] at hj;obtain⟨k,hk,rfl⟩:=hj;have hj2:=(zAd.1 hk).1;simp at hj2;have hk2:k=j:=by have:=(zAd.1 hk).2;simpa using this.symm
         subst hk2;have h3:k<c.size:=oM;show(World.cell? w.drew _)=_;have hb':w.drew.heap[b]? = some (.cells c T' fr):=hb;simp[World.cell?,cm,hb',h3])
        simp only[zDp,List.length_range] at this;simp only[Option.map,Builtin.firstCells,hi2,hsz];exact this
      · have:=bQ i j x v hi hj;have hxl:=hz x (zAe hi);have hjs:j<sz:=by
         have:=(zAd.1 hj).1;omega
        have hlt:=ea (zAd.1 hi).1 hjs;have e2:((List.range (es.length * sz)).map fun k=>c.getD k undef).getD (i * sz+j) undef=c.getD (i * sz+j) undef:=by
         simp[List.getD,hlt]
        rw[e2];exact this
   obtain⟨jj,hOs,hold,hz,bQ⟩:=holds;have hlt:cap<es.length+es2.length:=oM;have bg:=run_append_grow_src (P:=P) w t tx o.type e i le.aO fe hi1 (by rw[hi4];rfl) (ob.map fun b=>⟨b,0,none⟩) es.length cap jj hold (a.eval x) es2.length news hS' hlt oM (growslice_fits hlt (by rw[hi3];exact hbound));have hI:es.length+es2.length≤grownCap w (es.length+es2.length) cap e:=by unfold grownCap Question.cut;exact zE5 _ _
   generalize iL:((jj++news).toArray++Builtin.zeroCells le.aO.cells (grownCap w (es.length+es2.length) cap e - (es.length+es2.length)))=row at bg;have kq:row.size=grownCap w (es.length+es2.length) cap e * sz:=by
    rw[←iL];simp only[zDz,zDd,zDj,size_zeroCells,hzc,hOs,hNs,←zBf];congr 1;omega
   have ew:(execOp a.eval o).run P w=.ok (.value (.slice (some ⟨w.heap.size,0,none⟩) (es.length+es2.length) (grownCap w (es.length+es2.length) cap e))) (w.drew.alloc (.cells row e)):=by
    simp[execOp,ho,resolve,invoke,builtin,hA,bg]
   unfold OWP;rw[ew];have GJ:∀o,o<es.length * sz→row.getD o undef=jj.getD o undef:=by
    intro o ho;rw[←iL];simp only[zA4,zE6];rw[zAo (by simp;omega)];simp only[zCt];rw[zA8 oM];simp[List.getD]
   have yw:∀o,o<es2.length * sz→row.getD (es.length * sz+o) undef=news.toArray.getD o undef:=by
    intro o ho;rw[←iL];simp only[zA4,zE6];rw[zAo (by simp;omega)];simp only[zCt];rw[zA7 oM,hOs,zCa]
   have hm0:=fW hr.st.ax _ (zAt w.heap.size);have jc:(w.drew.alloc (.cells row e)).heap[w.heap.size]? = some (.cells row e):=by rw[heap_alloc];simp
   have hok:dg G.M (w.drew.alloc (.cells row e)):=by
    refine⟨fun b o v hv=>?_,fun b es' hb=>?_,hr.st.ax.g⟩
    · have h2:=hr.st.ax.1 _ _ _ hv;have cA:=World.block_lt_of_cell? _ _ h2;have:(w.drew.alloc (.cells row e)).cell? ⟨b,o,none⟩=w.drew.cell? ⟨b,o,none⟩:=World.cell?_alloc_lt _ _ _ cA;rw[this];exact h2
    · obtain⟨cl,h2⟩:=hr.st.ax.2 _ _ hb;refine⟨cl,?_⟩;rw[heap_alloc];split
      · rename_i eb;subst eb;simp at h2
      · exact h2
   refine fin w.heap.size _ _ ?_ hI;refine hr.st.ko (M':=G.M) hB (Mem.Le.refl _) (iK _ _) rfl sMp (fun k hk hk2=>by rw[heap_alloc];simp[Nat.ne_of_lt hk2];rfl) rfl (fun _ _ _=>rfl) hok (.inr (zAt _)) sMp ct.r ?_;refine .arr w.heap.size _ sz (ver+1) (es++es2) row e (0,0) jc (by intro o _;simp) kq (by simpa using hI) (fun x hx=>(zAy.1 hx).elim (hz x) (hN.2.1 x)) (fun i j x v hi hj=>?_) hm0.1;have hxl:x.length=sz:=(zAy.1 (zAe hi)).elim (hz x) (hN.2.1 x);have hjs:j<sz:=by
    have:=(zAd.1 hj).1;omega
   rcases zAb i es.length with h|h
   · rw[zA8 h] at hi;rw[GJ _ (ea h hjs)];exact(bQ i j x v hi hj).mono (Mem.Le.refl _) (BLe.set hB (iK _ _))
   · rw[zA7 h] at hi;have Hd:i - es.length<es2.length:=(zAd.1 hi).1;have e1:i * sz+j=es.length * sz+((i - es.length) * sz+j):=by
      rw[←zCg,←zBf];congr 2;omega
     rw[e1,yw _ (ea Hd hjs)];exact(hN.2.2 _ j x v hi hj).mono (Mem.Le.refl _) (BLe.nil _)
theorem EStep.Kc (hT:T.Ok P) {t:TypeId} {x y:Operand} {l sz i off ver:Nat} {es:List (List AV)} {u u1:AV} {li:LI} (ho:o.op=.store t x y) (hg:o.guard=none) (hx:rdv env x=some (.bo l sz i off ver)) (nx:rdn env x)
 (hσ:σ[l]? = some (.arr sz ver es)) (hi:i<es.length) (hy:rdv env y=some u) (ny:rdn env y) (hc:bY u=some [u1]) (gQ:fb u1=true) (hl:T.get t=some li) (hsz:li.size=1) (hoff:off<sz) (hdn:fa n o=true)
 (hk:k (env.bj o.dst .any) (σ.set l (.arr sz ver (es.set i ((es.getD i []).set off u1))))):EStep P n ops o k env σ:=by
 refine EStep.plain hg fun G a w hr=>?_
 have h1:=hr.rd (Rd.w hx nx);generalize hA:a.eval x=X at h1;obtain⟨ob,cap,hB,hne,hob⟩:=cJ hr.st hσ;cases h1 with
 | bo _ _ _ _ _ b q hrr =>
   obtain⟨ob',dW,n',g1,g2,g3⟩:=hrr;rw[hB] at g1;simp at g1;obtain⟨rfl,rfl,rfl⟩:=g1;obtain⟨g4,g5,rfl,rfl⟩:=g3 rfl;obtain⟨c,T',fr,hbb,hf,hlen,hn,hz,bQ,hm⟩:=hob b rfl;have hlk:=LOk.of (hT.get hl);have h2:=hr.rd (Rd.w hy ny);obtain⟨h3,h4⟩:=jr hc h2;simp at h3;have po:i<cap:=oM;have GR:i * sz+off+1≤c.size:=by
    rw[hlen];have:=ea po hoff;omega
   obtain⟨w',c',r1,r2,r3,r4,r5,r6,kY⟩:=dB (P:=P) (b:=b) (off:=i * sz+off) (T:=T') (fr:=fr) (a.eval y).cells.toList 0 c w hbb hf (fun v hv=>by
    obtain⟨i,hi,rfl⟩:=zB9.1 hv;have hi':i=0:=by simp[h3] at hi;omega
    subst hi';have:=h4 0 u1 rfl;have h6:=jY gQ this;have hi2:0<(a.eval y).cells.size:=oM;simpa[hi2] using h6) (by simp only[zBp,h3];omega)
   have bg:(execOp a.eval o).run P w=.ok .skip w':=by
    simp only[execOp,ho,hA,Instr.storeAt,Instr.sureAddr,storeVar];simp[hlk.bW w,h3,hsz,r1]
   unfold OWP;rw[bg];have hmm:G.M.map b=none:=cE hr.st.ax hbb sMp;have hei:es[i]? = some (es.getD i []):=by simp[List.getD,hi]
   have hs:az G (σ.set l (.arr sz ver (es.set i ((es.getD i []).set off u1)))) w':=by
    refine hr.st.upd hB rfl r2 r3 (.arr b cap sz ver _ c' T' fr r4 (by rw[r5];exact hf) (by rw[r5];exact hlen) (by simpa using hn) (fun e he=>?_) (fun i' j e av he hj=>?_) hm) ⟨hm,hmm⟩ kY
    · rcases zCe he with h|h
      · exact hz e h
      · rw[h,zCk];exact hz _ (zAe hei)
    · have hjs:j<sz:=by
       have hle:e.length=sz:=by
        rcases zCe (zAe he) with h|h
        · exact hz e h
        · rw[h,zCk];exact hz _ (zAe hei)
       have:=(zAd.1 hj).1;omega
      rw[r6 (i' * sz+j)];simp only[zC7,zBp,h3];by_cases hii:i=i'
      · subst hii;rw[zAh hi] at he;simp at he;subst he;by_cases hjo:off=j
        · subst hjo;rw[zAh (by have:=hz _ (zAe hei);simp only[zB5] at this;omega)] at hj;simp at hj;subst hj;rw[if_pos ⟨oM,oM⟩];have:=h4 0 _ rfl;simpa using this
        · rw[zAs hjo] at hj;rw[if_neg oM];exact bQ i j _ av hei hj
      · rw[zAs hii] at he;have hno:¬(i * sz+off≤i' * sz+j∧i' * sz+j<i * sz+off+1):=by
         rintro⟨q1,q2⟩;rcases zAb i i' with h|h
         · have:=zB6 sz (show i+1≤i' from h);rw[zBf,zDw] at this;omega
         · have:=zB6 sz (show i'+1≤i by omega);rw[zBf,zDw] at this;omega
        rw[if_neg hno];exact bQ i' j e av he hj
   have hr':bd n G env (σ.set l (.arr sz ver (es.set i ((es.getD i []).set off u1)))) a w':=⟨hr.size,hr.defers,hr.bf,hs⟩;exact⟨_,_,G,hk,Gh.Le.refl G,hr'.bj (ca hdn) (.any _)⟩
theorem PRun.tw (hT:T.Ok P) {t:TypeId} {x y:Operand} {l sz off len ver:Nat} {es:List (List AV)} {kd:IntKind} {i:Int} (ho:o.op=.slice t x (some y) none none) (hx:rdv env x=some (.sla l sz off len ver)) (nx:rdn env x)
 (hy:rdv env y=some (.prim (.int kd i))) (ny:rdn env y) (hl:eE T t=some sz) (hσ:σ[l]? = some (.arr sz ver es)) (h:0≤i∧i≤len):PRun P o env σ (.sla l sz (off+i.toNat) (len - i.toNat) ver) :=
 .of fun G A w hs hv=>by
  have hX:=rd (Rd.w hx nx) (by simp[ho,Op.operands]) hv;have e':=af.aP (rd (Rd.w hy ny) (by simp[ho,Op.operands]) hv);obtain⟨e,s1,b1,z,li,h1,h2,h3⟩:=dw hT hl;obtain⟨j,rfl⟩:=zC8 h.1;have hj:j≤len:=oM;obtain⟨ob,cap,hB,hne,hob⟩:=cJ hs hσ;generalize hA:A.eval x=v at hX;cases hX with
  | sla _ _ _ _ _ a c hq =>
    obtain⟨ob',dW,n',g1,g2,g3⟩:=hq;rw[hB] at g1;simp at g1;obtain⟨rfl,rfl,rfl⟩:=g1;obtain⟨g4,g5⟩:=g3 rfl;have hrb:=da (P:=P) (k:=kd) (i:=(j:Int)) (y:=len) (code:=.sliceB) w ⟨oM,oM⟩;rcases zBi len with hz|hz
    · subst hz;have hj0:j=0:=oM;subst hj0;refine⟨.slice a 0 c,?_,.sla _ sz _ _ ver a c ⟨ob,cap,ver,hB,zAt _,fun _=>⟨by simpa using g4,.inl sMp⟩⟩⟩;have He:=da (P:=P) (k:=kd) (i:=(0:Int)) (y:=0) (code:=.sliceB) w ⟨oM,oM⟩;simp only[execOp,ho,hA,Instr.sliceAt,Instr.slice,zDf,zB4];cases a<;>simp[h1.slice w,h2.bW w,Instr.sliceBounds,e',He,Addr.add]
    · rcases g5 with g5|⟨rfl,rfl⟩
      · omega
      cases ob with
      | none =>
        exfalso;have ho:=hs.aZ l _ _ hB hσ;cases ho;omega
      | some b =>
        refine⟨.slice (if cap - off=j then some ⟨b,off * sz,none⟩ else some ⟨b,off * sz+j * sz,none⟩) (len - j) (cap - off - j),?_,?_⟩
        · simp only[execOp,ho,hA,Instr.sliceAt,Instr.slice,zDf,zB4];simp[h1.slice w,h2.bW w,h3,Instr.sliceBounds,e',hrb,cm]
        · simp only[zAj];refine .sla _ sz _ _ ver _ _ ⟨some b,cap,ver,hB,zAt _,fun _=>⟨oM,?_⟩⟩;by_cases hcj:cap - off=j
          · exact .inl oM
          · refine .inr ⟨oM,?_⟩;rw[if_neg hcj];simp[zBf]
theorem PRun.yZ (hT:T.Ok P) {t:TypeId} {x y:Operand} {l sz off len ver:Nat} {es:List (List AV)} {kd:IntKind} {i:Int} (ho:o.op=.slice t x none (some y) none) (hx:rdv env x=some (.sla l sz off len ver)) (nx:rdn env x)
 (hy:rdv env y=some (.prim (.int kd i))) (ny:rdn env y) (hl:eE T t=some sz) (hσ:σ[l]? = some (.arr sz ver es)) (h:0≤i∧i≤len):PRun P o env σ (.sla l sz off i.toNat ver) :=
 .of fun G A w hs hv=>by
  have hX:=rd (Rd.w hx nx) (by simp[ho,Op.operands]) hv;have e':=af.aP (rd (Rd.w hy ny) (by simp[ho,Op.operands]) hv);obtain⟨e,s1,b1,z,li,h1,h2,h3⟩:=dw hT hl;obtain⟨j,rfl⟩:=zC8 h.1;have hj:j≤len:=oM;obtain⟨ob,cap,hB,hne,hob⟩:=cJ hs hσ;generalize hA:A.eval x=v at hX;cases hX with
  | sla _ _ _ _ _ a c hq =>
    obtain⟨ob',dW,n',g1,g2,g3⟩:=hq;rw[hB] at g1;simp at g1;obtain⟨rfl,rfl,rfl⟩:=g1;obtain⟨g4,g5⟩:=g3 rfl;have hjc:j≤c:=by
     rcases g5 with g5|⟨rfl,_⟩<;>omega
    have hrb:=da (P:=P) (k:=kd) (i:=(j:Int)) (y:=c) (code:=.sliceAcap) w ⟨oM,oM⟩;rcases zBi len with hz|hz
    · subst hz;have hj0:j=0:=oM;subst hj0;refine⟨.slice a 0 c,?_,.sla _ sz _ _ ver a c ⟨ob,cap,ver,hB,zAt _,fun _=>⟨by simpa using g4,.inl sMp⟩⟩⟩;have He:=da (P:=P) (k:=kd) (i:=(0:Int)) (y:=c) (code:=.sliceAcap) w ⟨oM,oM⟩;simp only[execOp,ho,hA,Instr.sliceAt,Instr.slice,zDf,zB4];cases a<;>simp[h1.slice w,h2.bW w,Instr.sliceBounds,e',He,Addr.add]
    · rcases g5 with g5|⟨rfl,rfl⟩
      · omega
      cases ob with
      | none =>
        exfalso;have ho:=hs.aZ l _ _ hB hσ;cases ho;omega
      | some b =>
        refine⟨.slice (some ⟨b,off * sz,none⟩) j (cap - off),?_,.sla _ sz _ _ ver _ _ ⟨some b,cap,ver,hB,zAt _,fun _=>⟨by simp;omega,.inr ⟨rfl,rfl⟩⟩⟩⟩;simp only[execOp,ho,hA,Instr.sliceAt,Instr.slice,zDf,zB4];simp[h1.slice w,h2.bW w,h3,Instr.sliceBounds,e',hrb,cm]
theorem xA {z:Array Value} (h:z.toList.all (·.oneCell')=true) (n:Nat):∀v∈(Builtin.zeroCells z n).toList,v.oneCell'=true:=by
 intro v hv;simp only[Builtin.zeroCells,Array.toList_map,zAf] at hv;obtain⟨i,hi,rfl⟩:=hv;have cC:0<z.size:=by
  rcases zBi z.size with h0|h0
  · rw[h0] at hi;simp at hi
  · exact h0
 have hlt:i % z.size<z.size:=Nat.mod_lt _ cC;rw[getElem!_pos z _ hlt];exact zA6.1 h _ (by rw[←Array.getElem_toList (h:=hlt)];exact zD9 _)
theorem EStep.oT (hT:T.Ok P) {t e:TypeId} {x:Operand} {l sz off len ver:Nat} {es:List (List AV)} {s1 b1:Nat} {z:List Z} {le:LI} (ho:o.op=.call { callee:=.builtin .clear,args:=#[x],argTypes:=#[t] }) (hg:o.guard=none)
 (hx:rdv env x=some (.sla l sz off len ver)) (nx:rdn env x) (hσ:σ[l]? = some (.arr sz ver es)) (hl:LOk P t ⟨.slice e,s1,b1,z⟩) (he:LOk P e le) (hz0:le.aO.cells.size=sz) (hz1:le.aO.cells.toList.all (·.oneCell')=true) (hdn:fa n o=true)
 (hk:k (env.bj o.dst .any) (σ.set l (.arr sz ver (es.take off)))):EStep P n ops o k env σ:=by
 refine EStep.plain hg fun G a w hr=>?_
 have h1:=hr.rd (Rd.w hx nx);generalize hA:a.eval x=X at h1;obtain⟨ob,cap,hB,hne,hob⟩:=cJ hr.st hσ;have fe:=hl.dI;cases h1 with
 | sla _ _ _ _ _ ad c hq =>
   obtain⟨ob',dW,n',g1,g2,g3⟩:=hq;rw[hB] at g1;simp at g1;obtain⟨rfl,rfl,rfl⟩:=g1;obtain⟨g4,g5⟩:=g3 rfl;have same:(execOp a.eval o).run P w=.ok (.value (.tuple #[])) w→OWP P o a w (fun a' w'=>∃au σ' G',k au σ'∧G.Le G'∧bd n G' au σ' a' w'):=fun bg=>by
    unfold OWP;rw[bg];have hs:=hr.st.ku (o':=.arr sz ver (es.take off)) hσ (fun g hg ho=>by
     cases ho with
     |arrz=>simpa using cS.arrz (M:=G.M) (B:=G.B) (w:=w) sz ver
     | arr b cap _ _ _ c T fr hb hf hl hn hz hr hm =>
       refine .arr b cap sz ver _ c T fr hb hf hl (by simp;omega) (fun e he=>hz e (zC4 he)) (fun i j e a hi hj=>?_) hm;rw[zB8] at hi;split at hi
       · exact hr i j e a hi hj
       · cases hi)
    exact⟨_,_,G,hk,Gh.Le.refl G,(⟨hr.size,hr.defers,hr.bf,hs⟩:bd n G env _ a w).bj (ca hdn) (.any _)⟩
   rcases zBi len with hz|hz
   · subst hz;refine same ?_;cases ad<;>simp[execOp,ho,resolve,invoke,builtin,hA,Builtin.clear_,run_underlying fe]
   · rcases g5 with g5|⟨rfl,rfl⟩
     · omega
     cases ob with
     | none =>
       exfalso;have ho:=hr.st.aZ l _ _ hB hσ;cases ho;omega
     | some b =>
       obtain⟨cs,T',fr,hbb,hf,hlen,hn,hz',bQ,hm⟩:=hob b rfl;have hvs:(Builtin.zeroCells le.aO.cells len).toList.length=len * sz:=by simp[size_zeroCells,hz0]
       have GR:off * sz+0+(Builtin.zeroCells le.aO.cells len).toList.length≤cs.size:=by
        rw[hvs,hlen,zC7,←zBf];exact zB6 _ g4
       obtain⟨w',c',r1,r2,r3,r4,r5,r6,kY⟩:=dB (P:=P) (b:=b) (off:=off * sz) (T:=T') (fr:=fr) (Builtin.zeroCells le.aO.cells len).toList 0 cs w hbb hf (xA hz1 len) GR;obtain⟨lm,rfl⟩:∃m,len=m+1:=⟨len - 1,oM⟩
       have bg:(execOp a.eval o).run P w=.ok (.value (.tuple #[])) w':=by
        simp[execOp,ho,resolve,invoke,builtin,hA,Builtin.clear_,run_underlying fe,he.gn,r1]
       unfold OWP;rw[bg];have hmm:G.M.map b=none:=cE hr.st.ax hbb sMp;have hs:az G (σ.set l (.arr sz ver (es.take off))) w':=by
        refine hr.st.upd hB rfl r2 r3 (.arr b cap sz ver _ c' T' fr r4 (by rw[r5];exact hf) (by rw[r5];exact hlen) (by simp;omega) (fun e he=>hz' e (zC4 he)) (fun i' j e av he hj=>?_) hm) ⟨hm,hmm⟩ kY;rw[zB8] at he;split at he
        · rename_i hio;have hel:=hz' e (zAe he);have hjs:j<sz:=by
           have:=(zAd.1 hj).1;omega
          have:=ea hio hjs;rw[r6,if_neg oM];exact bQ i' j e av he hj
        · cases he
       exact⟨_,_,G,hk,Gh.Le.refl G,(⟨hr.size,hr.defers,hr.bf,hs⟩:bd n G env _ a w').bj (ca hdn) (.any _)⟩
end
end Go.Ab
namespace Go.Ab
theorem AWP.BK {P:Program} {n:Nat} {c:Code} {K:Exit→Env→aa→Prop} {env:Env} {σ:aa} (l:Nat) {cs cs':List AV} (hσ:σ[l]? = some (.var cs)) (hl:cs'.length=cs.length)
 (he:∀(i:Nat) u v,cs[i]? = some u→cs'[i]? = some v→∀M B x,af M B u x→af M B v x) (hk:AWP P n c K env (σ.set l (.var cs'))):AWP P n c K env σ:=by
 intro G a w hr;exact hk G a w ⟨hr.size,hr.defers,hr.bf,az.ku (o':=.var cs') hr.st hσ fun g _ h=>by
  cases h with
  | var b _ c T fr hb hf hl2 hr2 hm =>
    refine .var b cs' c T fr hb hf (hl2.trans hl.symm) (fun i a hi=>?_) hm;have hlt:i<cs.length:=by
     rw[←hl];exact(zAd.1 hi).1
    exact he i _ a (zA1 hlt) hi _ _ _ (hr2 i _ (zA1 hlt))⟩
def y8 (T:Tab) (e:Env) (s:aa):ResultVar→Option AV
 |.tmp t=>some (e t)
 | .cell a t => match e a with
   | .ptr l off => match s[l]?, T.get t with
     |some (.var cs),some li=>jb li off cs
     |_,_=>none
   |_=>none
def pI (T:Tab) (e:Env) (s:aa):List ResultVar→Option (List AV)
 |[]=>some []
 | x :: r => match y8 T e s x, pI T e s r with
   |some u,some us=>some (u::us)
   |_,_=>none
def sk (T:Tab) (e:Env) (s:aa):List ResultVar→Option AV
 |[x]=>y8 T e s x
 |l=>(pI T e s l).map .tup
theorem y9 {P : Program} {T : Tab} (hT : T.Ok P) {e : Env} {s : aa} {G : Gh} {w : World} {tmps : Array Value} {u : AV} (hs : az G s w) (hv : ∀ i, af G.M G.B (e i) (tmps.getD i undef)) (f : ResultVar → Sem Value) (hf1 : ∀ t, f (.tmp t) = pure (tmps.getD t undef))
    (hf2:∀a t,f (.cell a t)=(do loadVar t (←asAddr (tmps.getD a undef)))) (l:List ResultVar) (h:sk T e s l=some u) :
    ∃v,(do let vs ←l.toArray.mapM f;pure (if h:vs.size=1 then vs[0] else .tuple vs):Sem Value).run P w=.ok v w∧af G.M G.B u v:=by
  have one : ∀ (f : ResultVar → Sem Value), (∀ t, f (.tmp t) = pure (tmps.getD t undef)) → (∀ a t, f (.cell a t) = (do loadVar t (← asAddr (tmps.getD a undef)))) → ∀ x u, y8 T e s x = some u → ∃ v, (f x).run P w = .ok v w ∧ af G.M G.B u v := by
    intro f h1 h2 x u hx;cases x with
    | tmp t =>
      simp only[y8,Option.some.injEq] at hx;subst hx;exact⟨_,by rw[h1];rfl,hv t⟩
    | cell a t =>
      simp only[y8] at hx;have h3:=hv a;cases hea:e a with
      | ptr l' off =>
        rw[hea] at hx h3;simp only at hx;split at hx
        · rename_i cs li hσ hg;obtain⟨ad,v,g1,g2,g3⟩:=sN hs (LOk.of (hT.get hg)) h3 hσ hx;refine⟨v,?_,g3⟩;rw[h2,g1,Sem.run_bind];exact g2
        · simp at hx
      |_=>rw[hea] at hx;simp at hx
  have key : ∀ (f : ResultVar → Sem Value), (∀ t, f (.tmp t) = pure (tmps.getD t undef)) → (∀ a t, f (.cell a t) = (do loadVar t (← asAddr (tmps.getD a undef)))) → ∀ l us, pI T e s l = some us → ∃ vs : List Value, Sem.run P (l.mapM f) w = Result.ok vs w ∧ vs.length = us.length ∧ us.length = l.length ∧ ∀ (i : Nat) u v, us[i]? = some u → vs[i]? = some v → af G.M G.B u v := by
    intro f h1 h2 l;induction l with
    | nil =>
      intro us hus;simp only[pI,Option.some.injEq] at hus;subst hus;exact⟨[],rfl,rfl,rfl,fun i u v h=>by simp at h⟩
    | cons x l ih =>
      intro us hus;simp only[pI] at hus;split at hus
      · rename_i u us' g1 g2;simp only[Option.some.injEq] at hus;subst hus;obtain⟨v,g3,g4⟩:=one f h1 h2 x u g1;obtain⟨vs,g5,g6,g7,g8⟩:=ih us' g2;refine⟨v::vs,?_,by simp[g6],by simp[g7],fun i u' v' hu' hv'=>?_⟩
        · simp only[zDm,Sem.run_bind,g3,Result.andThen_ok,g5];rfl
        · cases i with
          |zero=>simp at hu' hv';subst hu' hv';exact g4
          |succ i=>exact g8 i u' v' (by simpa using hu') (by simpa using hv')
      · simp at hus
  simp only[List.mapM_toArray,Sem.run_bind,Sem.run_map]
  match l,h with
  | [x], h =>
    simp only[sk] at h;obtain⟨vs,g5,g6,g7,g8⟩:=key f hf1 hf2 [x] [u] (by simp[pI,h]);rw[g5]
    match vs,g6 with
    |[v],_=>exact⟨v,rfl,g8 0 u v rfl rfl⟩
  | [], h =>
    simp only[sk,pI,zB4,Option.some.injEq] at h;subst h;exact⟨.tuple #[],rfl,.tup _ _ rfl fun i c hi=>by simp at hi⟩
  | x :: y :: r, h =>
    simp only[sk,zA5] at h;obtain⟨us,hus,rfl⟩:=h;obtain⟨vs,g5,g6,g7,g8⟩:=key f hf1 hf2 _ us hus;rw[g5];have hlen:vs.length=r.length+2:=by rw[g6,g7];rfl
    have hne:¬vs.toArray.size=1:=by simp;omega
    refine⟨.tuple vs.toArray,?_,.tup _ _ (by simp[g6]) fun i c hi=>?_⟩
    · simp only[Result.andThen_ok,Sem.run_pure];rw[dif_neg hne]
    · have hlt : i < vs.length := by
        rw[g6];rcases zAb i us.length with h|h
        · exact h
        · simp[zA2 h] at hi
      have:=g8 i c _ hi (zA1 hlt);simpa[hlt] using this
theorem za {P:Program} {T:Tab} (hT:T.Ok P) {fn:Func} {e:Env} {s:aa} {G:Gh} {w:World} {tmps:Array Value} {u:AV} (hs:az G s w) (hv:∀i,af G.M G.B (e i) (tmps.getD i undef)) (h:sk T e s fn.results.toList=some u) :
 ∃v,(results fn tmps).run P w=.ok v w∧af G.M G.B u v:=by
 unfold results;obtain⟨l,hl⟩:∃l,fn.results=List.toArray l:=⟨fn.results.toList,by simp⟩
 rw[hl] at h ⊢;refine y9 hT hs hv _ ?_ ?_ l h
 · exact fun _=>rfl
 · exact fun _ _=>rfl
theorem TCall.rh {P : Program} {T : Tab} (hT : T.Ok P) {f : FuncId} {fn : Func} {c : Code} {n : Nat} {avs : List AV} {σ : aa} {Q : AV → aa → Prop} (hf : P.funcs[f]? = some fn) (hb : fn.body = some c) (hnm : (fn.name == "runtime.NumGoroutine") = false)
 (hn:fn.ntmps=n) (jQ:decide (avs.length≤n)=true)
 (h:AWP P n c (fun x e s=>(x=.normal∨x=.ret)∧∃(rv:AV) (σ':aa),Q rv σ'∧s.take σ'.length=σ'∧σ.length≤σ'.length∧σ'.all (ak σ'.length)=true∧aG σ'.length 4 rv=true∧sk T e s fn.results.toList=some rv) (Env.init avs) σ):TCall P f avs σ Q:=by
 refine⟨⟨fn,hf,by simp[hb],hnm⟩,fun G w vs hs ha=>?_⟩;refine(mh hf hb hn (of_decide_eq_true jQ) h hs.enter rfl rfl ha (R:=fun v w'=>∃rv σ' G',Q rv σ'∧G.Le G'∧az G' σ' w'∧af G'.M G'.B rv v) (fun x e s hk=>hk.1) ?_).mono ?_
 · rintro x e s G' tmps w' ⟨_,rv,σ',hQ,htk,hlen,hok,GQ,hu⟩ hm0 hw0 hM hB hs' hvals;obtain⟨v,g1,g2⟩:=za hT hs' hvals hu;refine⟨v,g1,rv,σ',{ G with M:=G'.M,B:=G'.B.take σ'.length },hQ,.up hM fun l g hl=>?_,?_,af.take 4 _ _ GQ g2⟩
   · obtain⟨g',k1,k2⟩:=hB l g hl;have:l<σ'.length:=by
      have h1:l<G.B.length:=by
       rcases zAb l G.B.length with h|h
       · exact h
       · simp[zA2 h] at hl
      rw[hs.len] at h1;omega
     exact⟨g',db k1 this,k2⟩
   · have:=hs'.take σ'.length (by rw[htk];exact hok);rw[htk] at this;exact hs.leave this hm0 hw0
 · rintro e w' ⟨v,rfl,rv,σ',G',h1,h2⟩;exact⟨v,rv,σ',G',rfl,h1,h2⟩
end Go.Ab
/-
 DERIVED: THE SHELF's CONTRACTS AT THIS DUMP,IN PLAIN WORDS (tools/lay-plain.mjs out of 'YtmjdoencpjpegaaGreatDoorShelfM.lean',which tools/lay-shelf.mjs wrote): THE SAME DECLARATIONS UNDER THE SAME NAMES: 'import','namespace','open','def','theorem' AND NOTHING ELSE: no command of the shelf's: FOR A HAND-IN. Each laying: the table of numbers ('.._ren') and one theorem,a field a fact of the dump's own or the kernel's comparison;each contract: ONE APPLICATION.
-/
namespace Go.Proofs
open Go.Shelf
def Tryz.oo:Go.Shelf.Ren:=⟨fun|5=>53|8=>105|7=>104|19=>165|20=>166|10=>156|11=>157|12=>158|13=>159|14=>160|15=>161|16=>162|17=>163|18=>164|30=>191|31=>192|32=>193|33=>194|34=>195|35=>155|40=>219|n=>n,fun|23=>43|25=>3|3=>3|32=>192|22=>43|0=>0|44=>243|46=>245|4=>4|36=>236|35=>235|41=>137|5=>5|9=>9|53=>275|57=>279|63=>304|64=>305|n=>n,fun|n=>n⟩
theorem Tryz.sortInt:Go.Proofs.SlLaysM.n5 Tryz.prog Tryz.oo:={
 mixed:=by kernel_rfl
 f5:=⟨Tryz.f53.name,by decide,Tryz.func53.trans (congrArg some (by kernel_rfl))⟩
 f7:=⟨Tryz.f104.name,by decide,Tryz.func104.trans (congrArg some (by kernel_rfl))⟩
 f8:=Tryz.func105.trans (congrArg some (by kernel_rfl))
 f10:=⟨Tryz.f156.name,by decide,Tryz.func156.trans (congrArg some (by kernel_rfl))⟩
 f11:=⟨Tryz.f157.name,by decide,Tryz.func157.trans (congrArg some (by kernel_rfl))⟩
 f12:=⟨Tryz.f158.name,by decide,Tryz.func158.trans (congrArg some (by kernel_rfl))⟩
 f13:=⟨Tryz.f159.name,by decide,Tryz.func159.trans (congrArg some (by kernel_rfl))⟩
 f14:=⟨Tryz.f160.name,by decide,Tryz.func160.trans (congrArg some (by kernel_rfl))⟩
 f15:=⟨Tryz.f161.name,by decide,Tryz.func161.trans (congrArg some (by kernel_rfl))⟩
 f16:=⟨Tryz.f162.name,by decide,Tryz.func162.trans (congrArg some (by kernel_rfl))⟩
 f17:=⟨Tryz.f163.name,by decide,Tryz.func163.trans (congrArg some (by kernel_rfl))⟩
 f18:=⟨Tryz.f164.name,by decide,Tryz.func164.trans (congrArg some (by kernel_rfl))⟩
 f19:=Tryz.func165.trans (congrArg some (by kernel_rfl))
 f20:=Tryz.func166.trans (congrArg some (by kernel_rfl))
 f30:=⟨Tryz.f191.name,by decide,Tryz.func191.trans (congrArg some (by kernel_rfl))⟩
 f31:=Tryz.func192.trans (congrArg some (by kernel_rfl))
 f32:=Tryz.func193.trans (congrArg some (by kernel_rfl))
 f33:=⟨Tryz.f194.name,by decide,Tryz.func194.trans (congrArg some (by kernel_rfl))⟩
 f34:=⟨Tryz.f195.name,by decide,Tryz.func195.trans (congrArg some (by kernel_rfl))⟩
 f35:=⟨Tryz.f155.name,by decide,Tryz.func155.trans (congrArg some (by kernel_rfl))⟩
 f40:=⟨Tryz.f219.name,by decide,Tryz.func219.trans (congrArg some (by kernel_rfl))⟩
 t0:=Tryz.underlying0
 a0:=Tryz.isAgg0
 z0:=Tryz.sizeOf0
 v0:=Tryz.zeroValue0
 t3:=Tryz.underlying3
 a3:=Tryz.isAgg3
 z3:=Tryz.sizeOf3
 v3:=Tryz.zeroValue3
 t4:=Tryz.underlying4
 a4:=Tryz.isAgg4
 z4:=Tryz.sizeOf4
 v4:=Tryz.zeroValue4
 t5:=Tryz.underlying5
 a5:=Tryz.isAgg5
 z5:=Tryz.sizeOf5
 v5:=Tryz.zeroValue5
 t9:=Tryz.underlying9
 a9:=Tryz.isAgg9
 z9:=Tryz.sizeOf9
 v9:=Tryz.zeroValue9
 t22:=Tryz.underlying43
 a22:=Tryz.isAgg43
 z22:=Tryz.sizeOf43
 v22:=Tryz.zeroValue43
 t23:=Tryz.underlying43
 a23:=Tryz.isAgg43
 z23:=Tryz.sizeOf43
 v23:=Tryz.zeroValue43
 t25:=Tryz.underlying3
 a25:=Tryz.isAgg3
 z25:=Tryz.sizeOf3
 v25:=Tryz.zeroValue3
 t32:=Tryz.underlying192
 a32:=Tryz.isAgg192
 z32:=Tryz.sizeOf192
 v32:=Tryz.zeroValue192
 t35:=Tryz.underlying235
 a35:=Tryz.isAgg235
 z35:=Tryz.sizeOf235
 v35:=Tryz.zeroValue235
 t36:=Tryz.underlying236
 a36:=Tryz.isAgg236
 z36:=Tryz.sizeOf236
 v36:=Tryz.zeroValue236
 t41:=Tryz.underlying137
 a41:=Tryz.isAgg137
 z41:=Tryz.sizeOf137
 v41:=Tryz.zeroValue137
 t44:=Tryz.underlying243
 a44:=Tryz.isAgg243
 z44:=Tryz.sizeOf243
 v44:=Tryz.zeroValue243
 t46:=Tryz.underlying245
 a46:=Tryz.isAgg245
 z46:=Tryz.sizeOf245
 v46:=Tryz.zeroValue245
 t53:=Tryz.underlying275
 a53:=Tryz.isAgg275
 z53:=Tryz.sizeOf275
 v53:=Tryz.zeroValue275
 t57:=Tryz.underlying279
 a57:=Tryz.isAgg279
 z57:=Tryz.sizeOf279
 v57:=Tryz.zeroValue279
 t63:=Tryz.underlying304
 a63:=Tryz.isAgg304
 z63:=Tryz.sizeOf304
 v63:=Tryz.zeroValue304
 t64:=Tryz.underlying305
 a64:=Tryz.isAgg305
 z64:=Tryz.sizeOf305
 v64:=Tryz.zeroValue305 }
end Go.Proofs
