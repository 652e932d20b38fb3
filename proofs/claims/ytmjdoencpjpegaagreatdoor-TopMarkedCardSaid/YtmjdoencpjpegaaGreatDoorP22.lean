/- Parts of the proof. No statement is proved here. -/
import Derived.Laws.Externs
import Derived.Laws.IdiomCopy
import Derived.Lib.Overlaps
import Derived.Test.YtmjdoencpjpegaaGreatDoorP18
set_option linter.unusedVariables false
set_option linter.unusedSimpArgs false
set_option maxHeartbeats 16000000
set_option maxRecDepth 20000
namespace Go.Ab
section
variable {P:Program} {n:Nat} {ops:Array Oper} {o:Oper} {env:Env} {σ:aa} {T:Tab} {k:Env→aa→Prop}
def At (l sz:Nat):Nat→AV
 |0=>.sl sz [] (.own l)
 |k+1=>.sla l sz 0 (k+1) 0
theorem At.val {M:Mem} {B:List GB} {l sz len b cap:Nat} (hB:B[l]? = some (.own (some b) cap 0)) {x:Value} (h:af M B (At l sz len) x):x=.slice (some ⟨b,0,none⟩) len cap:=by
 cases len with
 | zero =>
   unfold At at h;cases h with
   | sl _ _ _ b1 off dW f hz hm hr' hc ht =>
     obtain⟨ob',cp,n',g1,g2,g3⟩:=ht;rw[hB] at g1;simp at g1;obtain⟨rfl,rfl,rfl⟩:=g1;obtain⟨g4,g5⟩:=g3 rfl;simp at g4;obtain⟨rfl,rfl⟩:=g4;subst g5;rfl
   | slz _ _ ht =>
     obtain⟨ob',cp,n',g1,g2,g3⟩:=ht;rw[hB] at g1;simp at g1;obtain⟨rfl,rfl,rfl⟩:=g1;obtain⟨g4,g5⟩:=g3 rfl;simp at g4
 | succ m =>
   unfold At at h;cases h with
   | sla _ _ _ _ _ a c hr =>
     obtain⟨ob',dW,n',g1,g2,g3⟩:=hr;rw[hB] at g1;simp at g1;obtain⟨rfl,rfl,rfl⟩:=g1;obtain⟨g4,g5⟩:=g3 rfl;rcases g5 with g5|⟨rfl,rfl⟩
     · omega
     · simp
theorem At.mk {M:Mem} {B:List GB} {l sz len b cap:Nat} (hB:B[l]? = some (.own (some b) cap 0)) (hle:len≤cap):af M B (At l sz len) (.slice (some ⟨b,0,none⟩) len cap):=by
 cases len with
 | zero =>
   unfold At;exact .sl sz [] (.own l) b 0 cap (fun _ _=>undef) (fun e he=>by cases he) (fun i j hi=>by cases hi) (fun i j e c h=>by simp at h) (nZl _) ⟨some b,cap,0,hB,nLr _,fun _=>⟨rfl,rfl⟩⟩
 | succ m =>
   unfold At;exact .sla l sz 0 (m+1) 0 _ _ ⟨some b,cap,0,hB,nLr _,fun _=>⟨oM,.inr ⟨rfl,by simp⟩⟩⟩
theorem PRun.mF (hT:T.Ok P) {t:TypeId} {x y y' y'':Operand} {l sz len:Nat} {es:List (List AV)} {kd kd' kd'':IntKind} {i j:Int} (ho:o.op=.slice t x (some y) (some y') (some y'')) (hx:rdv env x=some (.sla l sz 0 len 0)) (nx:rdn env x)
 (hy:rdv env y=some (.prim (.int kd i))) (ny:rdn env y) (hy':rdv env y'=some (.prim (.int kd' j))) (ny':rdn env y') (hy'':rdv env y''=some (.prim (.int kd'' len))) (ny'':rdn env y'') (hl:eE T t=some sz) (hσ:σ[l]? = some (.arr sz 0 es)) (cC:0<len) (h:0≤i∧i≤j∧j≤len) (hil:i<len):PRun P o env σ .any :=
 .of fun G A w hs hv=>by
  have hX:=rd (Rd.w hx nx) (by simp[ho,Op.operands]) hv;have e':=af.aP (rd (Rd.w hy ny) (by simp[ho,Op.operands]) hv);have e2:=af.aP (rd (Rd.w hy' ny') (by simp[ho,Op.operands]) hv);have e3:=af.aP (rd (Rd.w hy'' ny'') (by simp[ho,Op.operands]) hv);obtain⟨e,s1,b1,z,li,h1,h2,h3⟩:=dw hT hl;obtain⟨i,rfl⟩:=zC8 h.1;obtain⟨j,rfl⟩:=zC8 (Int.le_trans h.1 h.2.1);have hij:i≤j:=oM;have hjl:j≤len:=oM;obtain⟨ob,cap,hB,hne,hob⟩:=cJ hs hσ;generalize hA:A.eval x=v at hX;cases hX with
  | sla _ _ _ _ _ a c hq =>
    obtain⟨ob',dW,n',g1,g2,g3⟩:=hq;rw[hB] at g1;simp at g1;obtain⟨rfl,rfl,rfl⟩:=g1;obtain⟨g4,g5⟩:=g3 rfl;rcases g5 with g5|⟨hcc,rfl⟩
    · omega
    have hcc:c=cap:=oM;subst hcc;have b1:=fun code=>da (P:=P) (k:=kd) (i:=(i:Int)) (y:=j) (code:=code) w ⟨oM,oM⟩
    have b2:=fun code=>da (P:=P) (k:=kd') (i:=(j:Int)) (y:=len) (code:=code) w ⟨oM,oM⟩
    have b3:=fun code=>da (P:=P) (k:=kd'') (i:=(len:Int)) (y:=c) (code:=code) w ⟨oM,oM⟩
    cases ob with
    | none =>
      exfalso;have ho:=hs.aZ l _ _ hB hσ;cases ho;omega
    | some b =>
      have hil:i<len:=oM;have mT:¬len - i=0:=oM;refine⟨.slice (some ⟨b,i * sz,none⟩) (j - i) (len - i),?_,.any _⟩;simp only[execOp,ho,hA,Instr.sliceAt,Instr.slice,zDf,zB4];simp[h1.slice w,h2.bW w,h3,Instr.sliceBounds,e',e2,e3,b1,b2,b3,cm,mT];intro h;omega
theorem PRun.p5 (hT:T.Ok P) {t:TypeId} {x y:Operand} {l sz len:Nat} {es:List (List AV)} {kd:IntKind} (ho:o.op=.slice t x none (some y) none) (hx:rdv env x=some (.sla l sz 0 len 0)) (nx:rdn env x)
 (hy:rdv env y=some (.prim (.int kd 0))) (ny:rdn env y) (hl:eE T t=some sz) (hσ:σ[l]? = some (.arr sz 0 es)) (cC:0<len):PRun P o env σ (.sl sz [] (.own l)) :=
 .of fun G A w hs hv=>by
  have hX:=rd (Rd.w hx nx) (by simp[ho,Op.operands]) hv;have e':=af.aP (rd (Rd.w hy ny) (by simp[ho,Op.operands]) hv);obtain⟨e,s1,b1,z,li,h1,h2,h3⟩:=dw hT hl;obtain⟨ob,cap,hB,hne,hob⟩:=cJ hs hσ;generalize hA:A.eval x=v at hX;cases hX with
  | sla _ _ _ _ _ a c hq =>
    obtain⟨ob',dW,n',g1,g2,g3⟩:=hq;rw[hB] at g1;simp at g1;obtain⟨rfl,rfl,rfl⟩:=g1;obtain⟨g4,g5⟩:=g3 rfl;rcases g5 with g5|⟨hcc,rfl⟩
    · omega
    have hcc:c=cap:=oM;subst hcc;have hrb:=da (P:=P) (k:=kd) (i:=(0:Int)) (y:=c) (code:=.sliceAcap) w ⟨oM,oM⟩;cases ob with
    | none =>
      exfalso;have ho:=hs.aZ l _ _ hB hσ;cases ho;omega
    | some b =>
      refine⟨.slice (some ⟨b,0,none⟩) 0 c,?_,At.mk (len:=0) hB (nZl _)⟩;simp only[execOp,ho,hA,Instr.sliceAt,Instr.slice,zDf,zB4];simp only[Int.toNat_zero] at hrb;simp[h1.slice w,h2.bW w,h3,Instr.sliceBounds,e',hrb,cm]
theorem PRun.lv (hT:T.Ok P) {t:TypeId} {x y y':Operand} {l sz:Nat} (len hi:Nat) {S:AV} {es:List (List AV)} {kd kd':IntKind} (ho:o.op=.slice t x (some y) (some y') none) (hx:rdv env x=some S) (nx:rdn env x) (hS:S=At l sz len)
 (hy:rdv env y=some (.prim (.int kd (len:Nat)))) (ny:rdn env y) (hy':rdv env y'=some (.prim (.int kd' (hi:Nat)))) (ny':rdn env y') (hl:eE T t=some sz) (hσ:σ[l]? = some (.arr sz 0 es)) (h:len<hi∧hi≤es.length):PRun P o env σ (.sla l sz len (hi - len) 0) :=
 .of fun G A w hs hv=>by
  subst hS;have hX:=rd (Rd.w hx nx) (by simp[ho,Op.operands]) hv;have e':=af.aP (rd (Rd.w hy ny) (by simp[ho,Op.operands]) hv);have e2:=af.aP (rd (Rd.w hy' ny') (by simp[ho,Op.operands]) hv);obtain⟨e,s1,b1,z,li,h1,h2,h3⟩:=dw hT hl;obtain⟨ob,cap,hB,hne,hob⟩:=cJ hs hσ;obtain⟨b,rfl⟩:=hne (by intro e;rw[e] at h;simp at h;omega);obtain⟨c,T',fr,hb,hf,hlc,hn,hz,bQ,hm⟩:=hob b rfl;have hA:=At.val hB hX;have b1:=fun code=>da (P:=P) (k:=kd) (i:=(len:Int)) (y:=hi) (code:=code) w ⟨oM,oM⟩
  have b2:=fun code=>da (P:=P) (k:=kd') (i:=(hi:Int)) (y:=cap) (code:=code) w ⟨oM,oM⟩
  refine⟨.slice (some ⟨b,len * sz,none⟩) (hi - len) (cap - len),?_,.sla _ sz _ _ 0 _ _ ⟨some b,cap,0,hB,nLr _,fun _=>⟨oM,.inr ⟨rfl,rfl⟩⟩⟩⟩;simp only[execOp,ho,hA,Instr.sliceAt,Instr.slice,zDf,zB4];have mT:¬cap - len=0:=oM;simp[h1.slice w,h2.bW w,h3,Instr.sliceBounds,e',e2,b1,b2,cm,mT];intro h;omega
theorem EStep.lz (hT:T.Ok P) {s x:Operand} {t tx e ex:TypeId} {d l sz:Nat} (i j m:Nat) {es es':List (List AV)} {S R:AV} {s1 b1 s2 b2:Nat} {z z2:List Z} {le:LI} (ho:o.op=.call { callee:=.builtin .append,args:=#[s,x],argTypes:=#[t,tx] })
 (hg:o.guard=none) (hd:o.dst=some d) (hdn:d<n) (hs:Rd env s S) (hS:S=At l sz i) (hR:R=At l sz (i+m)) (hσ:σ[l]? = some (.arr sz 0 es)) (hx:Rd env x (.sla l sz j m 0)) (gQ:∀x∈es,x.all fb=true)
 (hl:LOk P t ⟨.slice e,s1,b1,z⟩) (hlx:LOk P tx ⟨.slice ex,s2,b2,z2⟩) (he:LOk P e le) (hsz:le.size=sz) (hlen:0<es.length) (him:i+m≤es.length) (hjm:j+m≤es.length) (hes:es'=es.take i++((es.drop j).take m++es.drop (i+m)))
 (hk:k (env.put d R) (σ.set l (.arr sz 0 es'))):EStep P n ops o k env σ:=by
 subst hS;subst hR;refine EStep.plain hg fun G a w hr=>?_
 have h1:=hr.rd hs;have h2:=hr.rd hx;generalize hA:a.eval s=sv at h1;generalize hX:a.eval x=xv at h2;obtain⟨ti,hi1,hi2,hi3,hi4⟩:=he.info;have fe:=hl.dI;have M6:=hlx.dI;obtain⟨ob,cap,hB,hne,hob⟩:=cJ hr.st hσ;obtain⟨b,rfl⟩:=hne (by intro e;rw[e] at hlen;simp at hlen);obtain⟨c,T',fr,hb,hf,hlc,hn,hz,bQ,hm⟩:=hob b rfl;have hA':=At.val hB h1;subst hA'
 -- the cells that are read
 have dY:∀q,q<m * sz→j * sz+q<c.size:=fun q hq=>by
  have:(j+m) * sz≤cap * sz:=zB6 _ oM;rw[zBf] at this;rw[hlc];omega
 have jU:∀q,q<m * sz→∃e0 u,es[j+q / sz]? = some e0∧e0[q % sz]? = some u∧af G.M G.B u (c.getD (j * sz+q) undef)∧fb u=true:=fun q hq=>by
  obtain⟨g1,g2,g3⟩:=iJ hq;have hlt:j+q / sz<es.length:=oM;have hel:=hz _ (lGm hlt);have cA:q % sz<(es[j+q / sz]).length:=oM;refine⟨es[j+q / sz],(es[j+q / sz])[q % sz],zA1 hlt,zA1 cA,?_,zA6.1 (gQ _ (lGm hlt)) _ (lGm cA)⟩;have:=bQ (j+q / sz) (q % sz) _ _ (zA1 hlt) (zA1 cA);rw[zBf,zCg,←g3] at this;exact this
 obtain⟨news,nE⟩:∃news:List Value,news=(List.range (m * sz)).map fun q=>c.getD (j * sz+q) undef:=⟨_,rfl⟩
 have hNl:news.length=m * sz:=by rw[nE];simp
 have hNg:∀q,q<m * sz→news.getD q undef=c.getD (j * sz+q) undef:=fun q hq=>by rw[nE];simp[List.getD,hq]
 have Ju:∀u∈news,u.oneCell'=true:=fun u hu=>by
  rw[nE,lMm] at hu;obtain⟨q,hq,rfl⟩:=hu;obtain⟨e0,u,_,_,g3,g4⟩:=jU q (zBk.1 hq);exact jY g4 g3
 have Fv:∀w':World,w'.heap=w.heap→(Builtin.firstCells sz m xv).run P w'=.ok news.toArray w':=fun w' hw=>by
  cases h2 with
  | sla _ _ _ _ _ ad c2 hq =>
    obtain⟨ob',dW,n',g1,g2,g3⟩:=hq;rw[hB] at g1;simp at g1;obtain⟨rfl,rfl,rfl⟩:=g1;obtain⟨g4,g5⟩:=g3 rfl;rcases zBi m with h0|h0
    · subst h0;have:news=[]:=zAv (by rw[hNl,zDl]);subst this;cases ad<;>simp[Builtin.firstCells,loadCells,loadCellsFrom]
    · rcases g5 with g5|⟨rfl,rfl⟩
      · omega
      have:=run_loadCells_list (P:=P) w' ⟨b,j * sz,none⟩ news (fun q v hq=>by
       have hq2:=(zAd.1 hq).1;rw[hNl] at hq2;have hv:news.getD q undef=v:=by simp[List.getD,hq]
       rw[hNg q hq2] at hv;have h3:=dY q hq2;have hb':w'.heap[b]? = some (.cells c T' fr):=by rw[hw];exact hb
       simp[World.cell?,cm,hb',h3] at hv ⊢;exact hv)
      rw[hNl] at this;simp only[Option.map,Builtin.firstCells];exact this
 have M7:∀w':World,(Builtin.lenOf xv).run P w'=.ok m w':=fun w'=>by
  cases h2<;>rfl
 have hS:Src P ti.size tx xv m news w:=⟨.inl ⟨_,M6⟩,M7,by rw[hi2,hsz];exact Fv w rfl,by rw[hi2,hsz];exact Fv w.drew rfl,by rw[hi2,hsz];exact hNl,Ju⟩;have hcs:(i+m) * sz≤c.size:=by rw[hlc];exact zB6 _ oM
 rw[zBf] at hcs;obtain⟨w',c',r1,r2,r3,r4,r5,r6,kY⟩:=dB (P:=P) (b:=b) (off:=i * sz) (T:=T') (fr:=fr) news 0 c w hb hf Ju (by rw[hNl];omega);have bg:=jR (P:=P) w w' t tx o.type e ti fe hi1 b 0 i cap xv m news hS oM (by rw[hi2,hsz,zC3];exact r1);have ew:(execOp a.eval o).run P w=.ok (.value (.slice (some ⟨b,0,none⟩) (i+m) cap)) w':=by simp[execOp,ho,resolve,invoke,builtin,hA,hX,bg]
 unfold OWP;rw[ew];simp only[zC7] at r6;have pq:G.M.map b=none:=cE hr.st.ax hb (by intros;simp);have hel:es'.length=es.length:=by
  rw[hes];simp only[lLa,zAg,zAx];omega
 have zM:∀p,es'[p]? = if p<i then es[p]? else if p<i+m then es[p - i+j]? else es[p]? := fun p=>by
  rw[hes];by_cases h0:p<i
  · rw[if_pos h0,zA8 (by rw[zAg];omega),zB8,if_pos h0]
  · rw[if_neg h0,zA7 (by rw[zAg];omega),zAg,zDy oM];by_cases h1:p<i+m
    · rw[if_pos h1,zA8 (by rw[zAg,zAx];omega),zB8,if_pos oM,zBg];congr 1;omega
    · rw[if_neg h1,zA7 (by rw[zAg,zAx];omega),zAg,zAx,zBg];congr 1;omega
 have hs2:az G (σ.set l (.arr sz 0 es')) w':=by
  refine hr.st.upd hB rfl r2 r3 (.arr b cap sz 0 _ c' T' fr r4 (by rw[r5];exact hf) (by rw[r5];exact hlc) oM (fun e he=>?_) (fun p q e1 av he hj=>?_) hm) ⟨hm,pq⟩ kY
  · rw[hes] at he;rcases zAy.1 he with h|h
    · exact hz e (zC4 h)
    · rcases zAy.1 h with h|h
      · exact hz e (zCn (zC4 h))
      · exact hz e (zCn h)
  · rw[zM] at he;have hq:∀e0∈es,e1=e0→q<sz:=fun e0 h0 h3=>by
     have:=(zAd.1 hj).1;rw[h3,hz e0 h0] at this;exact this
    rw[r6,hNl];by_cases h0:p<i
    · rw[if_pos h0] at he;have hqs:=hq _ (zAe he) rfl;have:=ea h0 hqs;rw[if_neg oM];exact bQ p q e1 av he hj
    · rw[if_neg h0] at he;by_cases h1:p<i+m
      · rw[if_pos h1] at he;have hqs:=hq _ (zAe he) rfl;have hlt:=ea (i:=p - i) (n:=m) oM hqs;have e2:p * sz+q=i * sz+((p - i) * sz+q):=by
         rw[←zCg,←zBf];congr 2;omega
        rw[e2,if_pos ⟨oM,oM⟩,zCa,hNg _ hlt];have:=bQ (p - i+j) q e1 av he hj;rw[zBf,Nat.add_right_comm,zDc] at this;exact this
      · rw[if_neg h1] at he;have:=zB6 sz (show i+m≤p by omega);rw[zBf] at this;rw[if_neg oM];exact bQ p q e1 av he hj
 refine⟨_,_,G,hk,Gh.Le.refl G,?_⟩;rw[hd];have hr':bd n G env (σ.set l (.arr sz 0 es')) a w':=⟨hr.size,hr.defers,hr.bf,hs2⟩;exact hr'.put hdn (At.mk hB oM)
end
end Go.Ab
namespace Go.Ab
variable {σ:aa}
theorem bX.sla {l sz len ver:Nat} {es:List (List AV)} (hσ:σ[l]? = some (.arr sz ver es)) (hlen:len=es.length) (cC:0<len):bX σ (.sla l sz 0 len ver) (.sl sz (es.map fun e=>e.map (Go.Ab.bor 3 σ)) .no):=fun G w hs x h=>by
 subst hlen;cases h with
 | sla _ _ _ _ _ a c hrr =>
   obtain⟨ob,cap,n,hB,hle,heq⟩:=hrr;have ho:=hs.aZ l _ _ hB hσ;cases ho with
   |arrz=>simp at cC
   | arr b cap sz ver es c2 T fr hb hf hl hn hz hr hm =>
     obtain⟨g1,g2⟩:=heq rfl;rcases g2 with g2|⟨g3,g4⟩
     · omega
     · subst g4;have e0:(es.map fun e=>e.map (Go.Ab.bor 3 σ)).length=es.length:=lLm ..;have k:=af.sl (M:=bR w) (B:=[]) sz (es.map fun e=>e.map (Go.Ab.bor 3 σ)) .no b 0 c (fun i j=>c2.getD (i * sz+j) undef) (fun e he=>by
        obtain⟨e1,h1,rfl⟩:=zAf.1 he;rw[lLm];exact hz e1 h1) (fun i j hi hj=>by
        rw[e0] at hi;have hlt:i * sz+j<c2.size:=by
         rw[hl];have:(i+1) * sz≤cap * sz:=zB6 _ oM;rw[zBf] at this;omega
        simp[bR,World.cell?,hb,hlt]) (fun i j e cc h1 h2=>by
        rw[zA3,zA5] at h1;obtain⟨e1,h1,rfl⟩:=h1;rw[zA3,zA5] at h2;obtain⟨a1,h2,rfl⟩:=h2;exact i7 hs 3 _ _ (hr i j e1 a1 h1 h2)) (by rw[e0,g3];omega) trivial
       rw[e0] at k;have e2:(⟨b,0 * sz,none⟩:Addr)=⟨b,0,none⟩:=by rw[zDl]
       show af _ _ _ (.slice (some ⟨b,0 * sz,none⟩) es.length c);rw[e2];exact k
theorem bX.agg {us vs:List AV} (h:sw σ us vs):bX σ (.agg us) (.agg vs):=fun G w hs x hx=>by
 obtain⟨h1,h2⟩:=h.get;cases hx with
 | agg _ ws hl hr =>
   refine .agg _ ws (hl.trans h1.symm) fun i c hi=>?_
   obtain⟨u,hu,hle⟩:=h2 i c hi;exact hle G w hs _ (hr i u hu)
theorem bX.sl (sz:Nat) (es:List (List AV)) (t:Tok):bX σ (.sl sz es t) (.sl sz es .no):=bX.of 1 rfl
theorem bX.pr (v:Value):bX σ (.prim v) (.prim v):=bX.of 1 rfl
end Go.Ab
namespace Go.Ab
theorem jM (b:Nat):∀(vs:List Value) (o:Nat) (w:World) {c:Array Value} {T:TypeId} {fr:Nat×Nat},w.heap[b]? = some (.cells c T fr)→o+vs.length≤c.size →
 ∃c',(w.setCells b o vs).heap[b]? = some (.cells c' T fr)∧c'.size=c.size∧(∀j,c'.getD j undef=if o≤j∧j<o+vs.length then vs.getD (j - o) undef else c.getD j undef) ∧
  (∀k,k≠b→(w.setCells b o vs).heap[k]? = w.heap[k]?)∧(w.setCells b o vs).heap.size=w.heap.size∧ct w (w.setCells b o vs)
 |[],o,w,c,T,fr,hb,_=>⟨c,hb,rfl,fun j=>by rw[if_neg (by simp only[zAi];omega)],fun _ _=>rfl,rfl,ct.refl _⟩
 | v :: vs, o, w, c, T, fr, hb, hle => by
   have hlen:(v::vs).length=vs.length+1:=rfl;rw[hlen] at hle;have h1:(w.setCell ⟨b,o,none⟩ v).heap[b]? = some (.cells (c.setIfInBounds o v) T fr):=by
    simp[World.setCell,zBc,hb]
   have h2:∀k,k≠b→(w.setCell ⟨b,o,none⟩ v).heap[k]? = w.heap[k]? := fun k hk=>by
    simp[World.setCell,zBc,Ne.symm hk]
   obtain⟨c',g1,g2,g3,g4,g5,g6⟩:=jM b vs (o+1) (w.setCell ⟨b,o,none⟩ v) h1 (by rw[zD6];omega);refine⟨c',g1,by rw[g2,zD6],fun j=>?_,fun k hk=>(g4 k hk).trans (h2 k hk),by rw[World.setCells,g5];simp[World.setCell],ct.trans (by exact⟨⟨rfl,rfl⟩,rfl,nLr _⟩) g6⟩;rw[g3,hlen];by_cases hj:o+1≤j∧j<o+1+vs.length
   · rw[if_pos hj,if_pos ⟨oM,oM⟩];obtain⟨q,hq⟩:∃q,j - o=q+1:=⟨j - o - 1,oM⟩
     rw[hq,show j - (o+1)=q by omega];rfl
   · rw[if_neg hj];by_cases hj2:j=o
     · subst hj2;rw[if_pos ⟨nLr _,oM⟩,Nat.sub_self,zA4,Array.getElem?_setIfInBounds_self_of_lt oM];rfl
     · rw[if_neg oM,zA4,zCy (Ne.symm hj2),zA4]
section
variable {P:Program} {n:Nat} {ops:Array Oper} {o:Oper} {env:Env} {σ:aa} {T:Tab} {k:Env→aa→Prop}
theorem EStep.my (hT:T.Ok P) {t m d l sz:Nat} {parts:Array (Nat×Operand)} {es:List (List AV)} (ho:o.op=.buildSlice t m parts) (hg:o.guard=none) (hd:o.dst=some d) (hdn:decide (d<n)=true) (h:tp T env t m parts.toList=some (sz,es)) (hn:fc env (parts.toList.map (·.2)))
 (hσ:σ[l]? = some (.arr sz 0 [])) (hk:k (env.put d (.sla l sz 0 m 1)) (σ.set l (.arr sz 1 es))):EStep P n ops o k env σ:=by
 refine EStep.plain hg fun G a w hr=>?_
 obtain⟨vr,e,k1,k2,k3,k4,k5⟩:=ED (w:=w) hT h ho hn (G:=G) (A:=a) (kb hr.st fun x _=>hr.bf x);unfold OWP;rw[k1];obtain⟨ob,cap,hB,_,_⟩:=cJ hr.st hσ;have hm:=fW hr.st.ax;have hls:l<G.B.length:=by
  rcases nLg l G.B.length with h|h
  · exact h
  · simp[zA2 h] at hB
 have hgl:GB.Le (.own ob cap 0) (.own (some w.heap.size) m 1):=.inr ⟨_,_,_,rfl,oM⟩;have hal:=hr.st.alloc (o:=.cells vr e) (g:=.own (some w.heap.size) m 0) (ao:=.arr sz 0 es) rfl (.arr w.heap.size m sz 0 es vr e (0,0) (by rw[heap_alloc,if_pos rfl]) (by intro o _;simp) k2 oM k4 (fun i j x c h1 h2=>(k5 i j x c h1 h2).mono (Mem.Le.refl _) (BLe.append _ _)) (hm _ (nLr _)).1);have hs:az { G with M:=G.M,B:=G.B.set l (.own (some w.heap.size) m 1) } (σ.set l (.arr sz 1 es)) (w.alloc (.cells vr e)):=by
  refine hr.st.ko (w':=w.alloc (.cells vr e)) hB (Mem.Le.refl _) hgl rfl sMp (fun k hk hk2=>by rw[heap_alloc,if_neg oM]) rfl (fun b hb o=>rfl) hal.ax (.inr (nLr _)) sMp ct.r ?_;exact .arr w.heap.size m sz 1 es vr e (0,0) (by rw[heap_alloc,if_pos rfl]) (by intro o _;simp) k2 oM k4 (fun i j x c h1 h2=>(k5 i j x c h1 h2).mono (Mem.Le.refl _) (BLe.set hB hgl)) (hm _ (nLr _)).1
 refine⟨_,_,_,hk,.upB (BLe.set hB hgl),?_⟩;rw[hd];have hr':bd n { G with B:=G.B.set l (.own (some w.heap.size) m 1) } env (σ.set l (.arr sz 1 es)) a (w.alloc (.cells vr e)):=hr.later (.upB (BLe.set hB hgl)) hs;refine hr'.put (of_decide_eq_true hdn) ?_;exact .sla l sz 0 m 1 _ m ⟨some w.heap.size,m,1,by rw[zAh hls],nLr _,fun _=>⟨oM,.inr ⟨oM,by simp⟩⟩⟩
end
end Go.Ab
namespace Go.Ab
section
variable {P:Program} {n:Nat} {ops:Array Oper} {o:Oper} {env:Env} {σ:aa} {T:Tab} {k:Env→aa→Prop}
theorem EStep.M8 (hT:T.Ok P) {t e:TypeId} {x:Operand} {d l sz len:Nat} {es:List (List AV)} {s1 b1:Nat} {z:List Z} (ho:o.op=.call { callee:=.builtin .cap,args:=#[x],argTypes:=#[t] }) (hg:o.guard=none) (hd:o.dst=some d) (hdn:d<n)
 (hx:Rd env x (.sla l sz 0 len 0)) (cC:0<len) (hσ:σ[l]? = some (.arr sz 0 es)) (hl:LOk P t ⟨.slice e,s1,b1,z⟩) (hk:∀m:Nat,k (env.put d (.int ((es.length+m:Nat):Int))) σ):EStep P n ops o k env σ:=by
 refine EStep.plain hg fun G a w hr=>?_
 have h1:=hr.rd hx;generalize hA:a.eval x=X at h1;obtain⟨ob,cap,hB,hne,hob⟩:=cJ hr.st hσ;cases h1 with
 | sla _ _ _ _ _ ad c hq =>
   obtain⟨ob',dW,n',g1,g2,g3⟩:=hq;rw[hB] at g1;simp at g1;obtain⟨rfl,rfl,rfl⟩:=g1;obtain⟨g4,g5⟩:=g3 rfl;rcases g5 with g5|⟨hcc,rfl⟩
   · omega
   have hcc:c=cap:=oM;subst hcc;have hle:es.length≤c:=by
    cases ob with
    | none =>
      have ho:=hr.st.aZ l _ _ hB hσ;cases ho;exact nZl _
    | some b =>
      obtain⟨_,_,_,_,_,_,hn,_⟩:=hob b rfl;exact hn
   have bg:(execOp a.eval o).run P w=.ok (.value (.int .i64 c)) w:=by
    simp[execOp,ho,hA,resolve,invoke,builtin,Builtin.cap_,hl.slice w,goInt]
   unfold OWP;rw[bg];have e1:((es.length+(c - es.length):Nat):Int)=(c:Int):=oM;have h2:=hk (c - es.length);rw[e1] at h2;refine⟨_,_,G,h2,Gh.Le.refl G,?_⟩;rw[hd];exact hr.put hdn (.prim _)
theorem PRun.HH (hT:T.Ok P) {t:TypeId} {x y:Operand} {l sz len:Nat} (hi:Nat) {es:List (List AV)} {kd:IntKind} {i:Int} (ho:o.op=.slice t x none (some y) none) (hx:rdv env x=some (.sla l sz 0 len 0)) (nx:rdn env x)
 (hy:rdv env y=some (.prim (.int kd i))) (hie:i=(hi:Int)) (ny:rdn env y) (hl:eE T t=some sz) (hσ:σ[l]? = some (.arr sz 0 es)) (cC:0<len) (h0:0<hi) (h:hi≤es.length):PRun P o env σ (.sla l sz 0 hi 0) :=
 .of fun G A w hs hv=>by
  subst hie;have hX:=rd (Rd.w hx nx) (by simp[ho,Op.operands]) hv;have e':=af.aP (rd (Rd.w hy ny) (by simp[ho,Op.operands]) hv);obtain⟨e,s1,b1,z,li,h1,h2,h3⟩:=dw hT hl;obtain⟨ob,cap,hB,hne,hob⟩:=cJ hs hσ;obtain⟨b,rfl⟩:=hne (by intro e;rw[e] at h;simp at h;omega);obtain⟨c,T',fr,hb,hf,hlc,hn,hz,bQ,hm⟩:=hob b rfl;obtain⟨q,rfl⟩:∃q,len=q+1:=⟨len - 1,oM⟩
  have hA:=At.val (l:=l) (sz:=sz) (len:=q+1) hB hX;have b1:=fun code=>da (P:=P) (k:=kd) (i:=(hi:Int)) (y:=cap) (code:=code) w ⟨oM,oM⟩
  refine⟨.slice (some ⟨b,0,none⟩) hi cap,?_,.sla _ sz _ _ 0 _ _ ⟨some b,cap,0,hB,nLr _,fun _=>⟨oM,.inr ⟨rfl,by simp⟩⟩⟩⟩;simp only[execOp,ho,hA,Instr.sliceAt,Instr.slice,zDf,zB4];simp[h1.slice w,h2.bW w,h3,Instr.sliceBounds,e',b1,cm]
theorem EStep.Fw (hT:T.Ok P) {x y:Operand} {t tx e:TypeId} {l l' i j n1 n2 v1 v2:Nat} (m:Nat) {es es2 es':List (List AV)} {s1 b1:Nat} {z:List Z} {le:LI} (ho:o.op=.call { callee:=.builtin .copy,args:=#[x,y],argTypes:=#[t,tx] })
 (hg:o.guard=none) (hdn:fa n o=true) (hx:Rd env x (.sla l 1 i n1 v1)) (hσ:σ[l]? = some (.arr 1 v1 es)) (hy:Rd env y (.sla l' 1 j n2 v2)) (HI:σ[l']? = some (.arr 1 v2 es2)) (gQ:∀x∈(es2.drop j).take m,x.all fb=true)
 (hl:LOk P t ⟨.slice e,s1,b1,z⟩) (he:LOk P e le) (hsz:le.size=1) (hm:m=Nat.min n2 n1) (hm0:0<m) (hi:i+m≤es.length) (hj:j+m≤es2.length) (hes:es'=es.take i++((es2.drop j).take m++es.drop (i+m)))
 (hk:k (env.bj o.dst (.int (m:Int))) (σ.set l (.arr 1 v1 es'))):EStep P n ops o k env σ:=by
 refine EStep.plain hg fun G a w hr=>?_
 have h1:=hr.rd hx;have h2:=hr.rd hy;generalize hA:a.eval x=X at h1;generalize hY:a.eval y=Y at h2;obtain⟨ti,hi1,hi2,hi3,hi4⟩:=he.info;have fe:=hl.dI;obtain⟨ob,cap,hB,hne,hob⟩:=cJ hr.st hσ;obtain⟨b,rfl⟩:=hne (by intro e;rw[e] at hi;simp at hi;omega);obtain⟨c,T',fr,hb,hf,hlc,hn,hz,bQ,hmm⟩:=hob b rfl;obtain⟨ob2,cap2,hB2,mT,hob2⟩:=cJ hr.st HI;obtain⟨b2,rfl⟩:=mT (by intro e;rw[e] at hj;simp at hj;omega);obtain⟨c2,T2,fr2,hb2,hf2,hlc2,hn2,hz2,Jv,hmm2⟩:=hob2 b2 rfl;rw[zD0] at hlc hlc2;have hX:∃cx,X=.slice (some ⟨b,i,none⟩) n1 cx:=by
  cases h1 with
  | sla _ _ _ _ _ ad cx hq =>
    obtain⟨ob',dW,n',g1,g2,g3⟩:=hq;rw[hB] at g1;simp at g1;obtain⟨rfl,rfl,rfl⟩:=g1;obtain⟨g4,g5⟩:=g3 rfl;rcases g5 with g5|⟨_,rfl⟩
    · rw[g5] at hm;simp[Nat.min_def] at hm;omega
    · exact⟨cx,by simp⟩
 have hYv:∃cy,Y=.slice (some ⟨b2,j,none⟩) n2 cy:=by
  cases h2 with
  | sla _ _ _ _ _ ad cx hq =>
    obtain⟨ob',dW,n',g1,g2,g3⟩:=hq;rw[hB2] at g1;simp at g1;obtain⟨rfl,rfl,rfl⟩:=g1;obtain⟨g4,g5⟩:=g3 rfl;rcases g5 with g5|⟨_,rfl⟩
    · rw[g5] at hm;simp[Nat.min_def] at hm;omega
    · exact⟨cx,by simp⟩
 obtain⟨cx,rfl⟩:=hX;obtain⟨cy,rfl⟩:=hYv
 -- the cells that are read
 have jU:∀q,q<m→∃e0 u,es2[j+q]? = some e0∧e0[0]? = some u∧af G.M G.B u (c2.getD (j+q) undef)∧fb u=true:=fun q hq=>by
  have hlt:j+q<es2.length:=oM;have hel:=hz2 _ (lGm hlt);have cA:0<(es2[j+q]).length:=oM;refine⟨es2[j+q],(es2[j+q])[0],zA1 hlt,zA1 cA,?_,zA6.1 (gQ _ (zB9.2 ⟨q,by rw[zAg,zAx];omega,by rw[List.getElem_take,List.getElem_drop]⟩)) _ (lGm cA)⟩;have:=Jv (j+q) 0 _ _ (zA1 hlt) (zA1 cA);rwa [zD0,zC7] at this
 obtain⟨cs,hcs⟩:∃cs:List Value,cs=(List.range m).map fun q=>c2.getD (j+q) undef:=⟨_,rfl⟩
 have hcl:cs.length=m:=by rw[hcs];simp
 have hcg:∀q,q<m→cs.getD q undef=c2.getD (j+q) undef:=fun q hq=>by rw[hcs];simp[List.getD,hq]
 have bg:=run_copy_cells (P:=P) w t tx o.type e b i n1 cx ⟨b2,j,none⟩ n2 cy cs fe (by rw[hi1];simp[hi2,hsz]) (by rw[hcl];exact hm) (fun q v hq=>by
  have hq2:=(zAd.1 hq).1;rw[hcl] at hq2;have hv:cs.getD q undef=v:=by simp[List.getD,hq]
  rw[hcg q hq2] at hv;have h3:j+q<c2.size:=oM;simp[World.cell?,cm,hb2,h3] at hv ⊢;exact hv) (fun q hq=>by
  rw[hcl] at hq;have h3:i+q<c.size:=oM;simp[World.cell?,hb,h3]) (fun q hq=>by
  rw[hcl] at hq;have:=hf (i+q) oM;simp only[World.frozen?,hb];by_cases h5:fr.1≤i+q
  · have h6:¬i+q<fr.2:=fun h6=>this ⟨h5,h6⟩
    simp[h6]
  · simp[h5]) (fun u hu=>by
  rw[hcs,lMm] at hu;obtain⟨q,hq,rfl⟩:=hu;obtain⟨e0,u,_,_,g3,g4⟩:=jU q (zBk.1 hq);exact jY g4 g3)
 have ew:(execOp a.eval o).run P w=.ok (.value (goInt cs.length)) (w.setCells b i cs):=by
  simp[execOp,ho,resolve,invoke,builtin,hA,hY,bg]
 unfold OWP;rw[ew];obtain⟨c',g1,g2,g3,g4,g5,g6⟩:=jM b cs i w hb (by rw[hcl];omega);have pq:G.M.map b=none:=cE hr.st.ax hb (by intros;simp);have hel:es'.length=es.length:=by
  rw[hes];simp only[lLa,zAg,zAx];omega
 have zM:∀p,es'[p]? = if p<i then es[p]? else if p<i+m then es2[p - i+j]? else es[p]? := fun p=>by
  rw[hes];by_cases h0:p<i
  · rw[if_pos h0,zA8 (by rw[zAg];omega),zB8,if_pos h0]
  · rw[if_neg h0,zA7 (by rw[zAg];omega),zAg,zDy oM];by_cases h1:p<i+m
    · rw[if_pos h1,zA8 (by rw[zAg,zAx];omega),zB8,if_pos oM,zBg];congr 1;omega
    · rw[if_neg h1,zA7 (by rw[zAg,zAx];omega),zAg,zAx,zBg];congr 1;omega
 have hs2:az G (σ.set l (.arr 1 v1 es')) (w.setCells b i cs):=by
  refine hr.st.upd hB rfl g5 g4 (.arr b cap 1 v1 _ c' T' fr g1 (by rw[g2];exact hf) (by rw[g2,zD0];exact hlc) oM (fun e he=>?_) (fun p q e1 av he hj'=>?_) hmm) ⟨hmm,pq⟩ g6
  · rw[hes] at he;rcases zAy.1 he with h|h
    · exact hz e (zC4 h)
    · rcases zAy.1 h with h|h
      · exact hz2 e (zCn (zC4 h))
      · exact hz e (zCn h)
  · rw[zM] at he;rw[zD0,g3,hcl];by_cases h0:p<i
    · rw[if_pos h0] at he;have hq:q=0:=by
       have:=(zAd.1 hj').1;rw[hz _ (zAe he)] at this;omega
      subst hq;rw[if_neg oM];have:=bQ p 0 e1 av he hj';rwa [zD0] at this
    · rw[if_neg h0] at he;by_cases h1:p<i+m
      · rw[if_pos h1] at he;have hq:q=0:=by
         have:=(zAd.1 hj').1;rw[hz2 _ (zAe he)] at this;omega
        subst hq;rw[if_pos ⟨oM,oM⟩,hcg _ oM];have:=Jv (p - i+j) 0 e1 av he hj';rw[zD0,zC7] at this;rw[show j+(p+0 - i)=p - i+j by omega];exact this
      · rw[if_neg h1] at he;have hq:q=0:=by
         have:=(zAd.1 hj').1;rw[hz _ (zAe he)] at this;omega
        subst hq;rw[if_neg oM];have:=bQ p 0 e1 av he hj';rwa [zD0] at this
 have hr':bd n G env (σ.set l (.arr 1 v1 es')) a (w.setCells b i cs):=⟨hr.size,hr.defers,hr.bf,hs2⟩;rw[hcl];exact⟨_,_,G,hk,Gh.Le.refl G,hr'.bj (ca hdn) (.prim _)⟩
end
end Go.Ab
namespace Go.Ab
theorem tL {G:Gh} {σ:aa} {w:World} (hs:az G σ w) {l i n1 v:Nat} {es:List (List AV)} {X:Value} (hσ:σ[l]? = some (.arr 1 v es)) (hX:af G.M G.B (.sla l 1 i n1 v) X) (h1:0<n1) (hi:i<es.length) :
 ∃b cap c T fr cx,G.B[l]? = some (.own (some b) cap v)∧w.heap[b]? = some (.cells c T fr)∧s9 fr c.size∧es.length≤c.size∧X=.slice (some ⟨b,i,none⟩) n1 cx:=by
 obtain⟨ob,cap,hB,hne,hob⟩:=cJ hs hσ;obtain⟨b,rfl⟩:=hne (by intro e;rw[e] at hi;simp at hi);obtain⟨c,T',fr,hb,hf,hlc,hn,hz,bQ,hmm⟩:=hob b rfl;rw[zD0] at hlc;cases hX with
 | sla _ _ _ _ _ ad cx hq =>
   obtain⟨ob',dW,n',g1,g2,g3⟩:=hq;rw[hB] at g1;simp at g1;obtain⟨rfl,rfl,rfl⟩:=g1;obtain⟨g4,g5⟩:=g3 rfl;rcases g5 with g5|⟨_,rfl⟩
   · omega
   · exact⟨b,cap,c,T',fr,cx,hB,hb,hf,oM,by simp⟩
section
variable {P:Program} {n:Nat} {ops:Array Oper} {o:Oper} {env:Env} {σ:aa} {T:Tab} {k:Env→aa→Prop}
theorem PRun.Du (hT : T.Ok P) {fo x y : Operand} {Ts : Array TypeId} {t tR : TypeId} {f : FuncId} {fn : Func} {l l' i j n1 n2 v1 v2 : Nat} {es es2 : List (List AV)} (hf : P.funcs[f]? = some fn) (M9 : (fn.name == "runtime.NumGoroutine") = false) (hb : fn.body.isNone = true)
 (hn:Extern.findNext fn=none) (he:Extern.find fn=some (Extern.SlicesOverlaps.overlaps #[t,t] #[tR])) (ho:o.op=.call { callee:=.value fo,args:=#[x,y],argTypes:=Ts }) (hfo:Rd env fo (.fn (.func f) [] [])) (hl:eE T t=some 1)
 (hx:Rd env x (.sla l 1 i n1 v1)) (hσ:σ[l]? = some (.arr 1 v1 es)) (hi:i<es.length) (h1:0<n1) (hy:Rd env y (.sla l' 1 j n2 v2)) (HI:σ[l']? = some (.arr 1 v2 es2)) (hj:j<es2.length) (h2:0<n2) (hne:l≠l'):PRun P o env σ (.b false) :=
 .of fun G a w hs hv=>by
  have hF:=rd hfo (by simp[ho,Op.operands,Call.operands]) hv;have hX:=rd hx (by simp[ho,Op.operands,Call.operands]) hv;have hY:=rd hy (by simp[ho,Op.operands,Call.operands]) hv;obtain⟨e,s1,b1,z,li,k1,k2,k3⟩:=dw hT hl;generalize hA:a.eval fo=F at hF;generalize hB:a.eval x=X at hX;generalize hC:a.eval y=Y at hY;obtain⟨b,cap,c,Tc,fr,cx,g1,g2,g3,g4,rfl⟩:=tL hs hσ hX h1 hi;obtain⟨b',dW,c',Tc',fr',cx',q1,q2,q3,q4,rfl⟩:=tL hs HI hY h2 hj;have hbb:b≠b':=fun e=>hne (hs.inj l l' _ _ b g1 q1 rfl (by rw[e];rfl))
  have hfz:∀o,o≤c.size→w.frozen? ⟨b,o,none⟩=false:=fun o ho=>by
   have:=g3 o ho;simp only[World.frozen?,g2];by_cases h5:fr.1≤o
   · have h6:¬o<fr.2:=fun h6=>this ⟨h5,h6⟩
     simp[h6]
   · simp[h5]
  cases hF with
  | fn _ _ _ vf vc hvf hvc h3 h4 =>
    have e1:vf=#[]:=zCp (by simpa using hvf);have e2:vc=#[]:=zCp (by simpa using hvc);subst e1;subst e2;refine⟨.bool false,?_,.prim _⟩;simp only[execOp,ho,resolve,hA,Deferred.ofValue,Sem.run_bind,Sem.run_pure,Result.andThen_ok,invoke];have e3:(#[]++Array.map a.eval #[x,y]++#[]:Array Value)=#[.slice (some ⟨b,i,none⟩) n1 cx,.slice (some ⟨b',j,none⟩) n2 cx']:=by simp[hB,hC]
    rw[e3,run_callFunc_extern hf M9 hb hn he,Lib.run_overlaps_apart w t tR e k1.dI 1 (fun w=>by rw[k2.bW w,k3]) ⟨b,i,none⟩ ⟨b',j,none⟩ n1 cx n2 cx' hbb Tc Tc' c.size c'.size (by simp[World.shape?,g2]) (by simp[World.shape?,q2]) oM (hfz _ oM) (hfz _ (nLr _))];rfl
end
theorem az.room {G:Gh} {σ:aa} {w:World} (h:az G σ w) {l ver b cap:Nat} {es:List (List AV)} (hσ:σ[l]? = some (.arr 1 ver es)) (hB:G.B[l]? = some (.own (some b) cap ver)) (hc:es.length<cap):az G (σ.set l (.arr 1 ver (es++[[.any]]))) w:=by
 obtain⟨ob,dW,hB',hne,hob⟩:=cJ h hσ;rw[hB] at hB';simp at hB';obtain⟨rfl,rfl⟩:=hB';obtain⟨c,T',fr,hb,hf,hlc,hn,hz,bQ,hmm⟩:=hob b rfl;refine h.upd hB rfl rfl (fun _ _=>rfl) (.arr b cap 1 ver _ c T' fr hb hf hlc (by simp;omega) (fun e he=>?_) (fun p q e1 av he hj=>?_) hmm) ⟨hmm,cE h.ax hb (by intros;simp)⟩ (ct.refl w)
 · rcases zAy.1 he with he|he
   · exact hz e he
   · rw[zA9.1 he];rfl
 · by_cases hp:p<es.length
   · rw[zA8 hp] at he;exact bQ p q e1 av he hj
   · rw[zA7 oM] at he;have:e1=[.any]:=zA9.1 (zAe he);subst this;have:av=.any:=zA9.1 (zAe hj);subst this;exact .any _
theorem az.newRow {G:Gh} {σ:aa} {w w':World} (h:az G σ w) {l ver cap:Nat} {ob:Option Nat} {es es':List (List AV)} (hσ:σ[l]? = some (.arr 1 ver es)) (hB:G.B[l]? = some (.own ob cap ver)) {c:Array Value} {T:TypeId} (hN:w'.heap[w.heap.size]? = some (.cells c T))
 (hsz:w'.heap.size=w.heap.size+1) (hk:∀k,k≠w.heap.size→w'.heap[k]? = w.heap[k]?) (mJ:ct w w') (hle:es'.length≤c.size) (hz:∀e∈es',e.length=1) (hr:∀(i:Nat) (e:List AV) (a:AV),es'[i]? = some e→e[0]? = some a→af G.M G.B a (c.getD i undef)) :
 az { G with M:=G.M,B:=G.B.set l (.own (some w.heap.size) c.size (ver+1)) } (σ.set l (.arr 1 (ver+1) es')) w'∧GB.Le (.own ob cap ver) (.own (some w.heap.size) c.size (ver+1)):=by
 have hm:=fW h.ax;have hgl:GB.Le (.own ob cap ver) (.own (some w.heap.size) c.size (ver+1)):=.inr ⟨_,_,_,rfl,oM⟩;have jQ:=BLe.set hB hgl;have hok:dg G.M w':=by
  refine⟨fun b k v hc=>?_,fun b es hc=>?_,h.ax.g⟩
  · have hne:b≠w.heap.size:=fun e=>by rw[(hm b oM).1] at hc;simp at hc
    have:=h.ax.1 _ _ _ hc;simp only[World.cell?] at this ⊢;rw[hk _ hne];exact this
  · have hne:b≠w.heap.size:=fun e=>by rw[(hm b oM).2] at hc;simp at hc
    obtain⟨c,h1⟩:=h.ax.2 _ _ hc;exact⟨c,by rw[hk _ hne];exact h1⟩
 refine⟨h.ko (w':=w') hB (Mem.Le.refl _) hgl rfl oM (fun k hk1 hk2=>hk k oM) rfl (fun b hb o=>rfl) hok (.inr (nLr _)) oM mJ ?_,hgl⟩;refine .arr w.heap.size c.size 1 (ver+1) es' c T (0,0) hN (by intro o _;simp) sMp hle hz (fun i j e a h1 h2=>?_) (hm _ (nLr _)).1;have hj:j=0:=by
  have:=(zAd.1 h2).1;rw[hz e (zAe h1)] at this;omega
 subst hj;rw[zD0];exact(hr i e a h1 h2).mono (Mem.Le.refl _) jQ
theorem az.fP {G:Gh} {σ:aa} {w:World} (hs:az G σ w) {l sz ver:Nat} {es:List (List AV)} {X:Value} (hσ:σ[l]? = some (.arr sz ver es)) (hvd:af G.M G.B (.sla l sz 0 es.length ver) X)
 (px:∀e∈es,∀a∈e,∀M B x,af M B a x→af M [] a x):∃M',G.M.Le M'∧az { G with M:=M' } (σ.set l .dead) w∧af M' G.B (.sl sz es .no) X:=by
 obtain⟨ob,cap,hB,hne,hob⟩:=cJ hs hσ;have hlt:l<σ.length:=by
  rcases nLg l σ.length with h|h
  · exact h
  · simp[zA2 h] at hσ
 have dead:∀(M':Mem),G.M.Le M'→(∀b,(∀b0,ob=some b0→b≠b0)→(∀o,M'.cell b o=G.M.cell b o)∧M'.map b=G.M.map b)→dg M' w→az { G with M:=M' } (σ.set l .dead) w:=fun M' hle hoth hok=>by
  have mN:∀b0,ob=some b0→¬G.w0.ji b0∧∀(l':Nat) (g:GB),G.B[l']? = some g→g.block=some b0→l'=l:=fun b0 e=>by
   subst e;exact⟨(hs.fresh l _ b0 hB rfl).1,fun l' g h1 h2=>hs.inj l' l g _ b0 h1 hB h2 rfl⟩
  refine⟨hok,fun b hb=>?_,hs.base,by simp[hs.len],fun l' g' o' h1 h2=>?_,hs.fresh,hs.inj,hs.out,⟨fun p hp=>?_,hs.dfr.2⟩⟩
  · have:=hoth b fun b0 e eb=>(mN b0 e).1 (eb▸hb)
    have h0:=hs.m0 b hb;exact⟨fun o=>(this.1 o).trans (h0.1 o),this.2.trans h0.2⟩
  · by_cases hll:l=l'
    · subst hll;rw[zAh hlt] at h2;simp at h2;subst h2;exact .dead _
    · rw[zAs hll] at h2;refine(hs.aZ l' g' o' h1 h2).grow hle (BLe.refl _) (fun _ _=>rfl) fun b hb=>hoth b fun b0 e eb=>?_
      subst eb;exact hll ((mN b e).2 l' g' h1 hb).symm
  · obtain⟨k1,k2,k3,k4,k5⟩:=hs.dfr.1 p hp;have:=hoth p.1 fun b0 e eb=>by
     subst e;exact k3 l _ hB (by rw[eb];rfl)
    exact⟨k1,k2,k3,fun o=>(this.1 o).trans (k4 o),this.2.trans k5⟩
 cases hvd with
 | sla _ _ _ _ _ ad cc hq =>
   obtain⟨ob',dW,n',g1,g2,g3⟩:=hq;rw[hB] at g1;simp at g1;obtain⟨rfl,rfl,rfl⟩:=g1;obtain⟨g4,g5⟩:=g3 rfl;by_cases hes:es=[]
   · subst hes;exact⟨G.M,Mem.Le.refl _,dead G.M (Mem.Le.refl _) (fun _ _=>⟨fun _=>rfl,rfl⟩) hs.ax,.slzz sz ad cc⟩
   · obtain⟨b,rfl⟩:=hne hes;obtain⟨cs,T',fr,hbb,hf,hlen,hn,hz,bQ,hm⟩:=hob b rfl;have nF:es.length≠0:=fun e=>hes (zAv e)
     rcases g5 with g5|⟨rfl,rfl⟩
     · exact absurd g5 nF
     have hle:=Mem.j4 (M:=G.M) (b:=b) cs hm;refine⟨G.M.bF b cs,hle,dead _ hle (fun b' hb'=>?_) ?_,?_⟩
     · have:=hb' b rfl;exact⟨fun o=>by simp only[Mem.bF,if_neg this],rfl⟩
     · refine⟨fun b' o v hv=>?_,hs.ax.m,hs.ax.g.mono hle⟩;simp only[Mem.bF] at hv;split at hv
       · rename_i e;subst e;simp only[World.cell?,hbb];exact hv
       · exact hs.ax.c _ _ _ hv
     · simp only[zB4,zDl,Nat.sub_zero];refine .sl sz es .no b 0 _ (fun i j=>cs.getD (i * sz+j) undef) hz (fun i j hi hj=>?_) (fun i j e a he ha=>?_) hn trivial
       · have h1:=ea (zCf hi hn) hj;have h2:i * sz+j<cs.size:=by rw[hlen];exact h1
         simp only[Mem.bF,if_pos rfl,zC3];simp[h2]
       · exact px e (zAe he) a (zAe ha) _ _ _ ((bQ i j e a he ha).mono hle (BLe.refl _))
theorem TCall.frz {P:Program} {f:FuncId} {avs:List AV} {σ τ':aa} {l sz:Nat} {es:List (List AV)} {τ:Nat→aa} (h:TCall P f avs σ (fun r s=>∃ver,r=.sla l sz 0 es.length ver∧s=τ ver)) (h1:∀ver,(τ ver)[l]? = some (.arr sz ver es)) (h2:∀ver,(τ ver).set l .dead=τ')
 (px:∀e∈es,∀a∈e,∀M B x,af M B a x→af M [] a x):TCall P f avs σ (fun r s=>r=.sl sz es .no∧s=τ'):=by
 refine⟨h.1,fun G w vs hs ha=>(h.2 G w vs hs ha).mono ?_⟩;rintro e w' ⟨v,rv,s,G',k1,⟨ver,rfl,rfl⟩,k3,k4,k5⟩;obtain⟨M',m1,m2,m3⟩:=k4.fP (h1 ver) k5 px;rw[h2] at m2;exact⟨v,_,_,_,k1,⟨rfl,rfl⟩,k3.trans (.upM m1),m2,m3⟩
theorem az.HJ {G:Gh} {σ:aa} {w:World} (h:az G σ w) {l ver cap:Nat} {ob:Option Nat} {es:List (List AV)} (hσ:σ[l]? = some (.arr 1 ver es)) (hB:G.B[l]? = some (.own ob cap ver)) {bf:List Int} {x:Int} {i:Nat} (hi:i≤bf.length) {row:Array Value} {T:TypeId}
 (hlen:bf.length+1≤row.size) (iL:∀j,j<i→row.getD j undef=.int .i64 (bf.getD j 0)) :
 ∃c,az { G with M:=G.M,B:=G.B.set l (.own (some w.heap.size) c (ver+1)) } (σ.set l (.arr 1 (ver+1) ((bf.take i++x::bf.drop i).map fun n=>[.int n]))) ((((w.alloc (.cells row T)).drew.setCells w.heap.size i [.int .i64 x]).drew).setCells w.heap.size (i+1) ((bf.map (Value.int .i64)).drop i)) ∧
  c=row.size∧GB.Le (.own ob cap ver) (.own (some w.heap.size) c (ver+1)):=by
 have a1:((w.alloc (.cells row T)).drew).heap[w.heap.size]? = some (.cells row T (0,0)):=by
  show(w.alloc (.cells row T)).heap[w.heap.size]? = _;rw[heap_alloc,if_pos rfl]
 obtain⟨c1,g1,g2,g3,g4,g5,g6⟩:=jM w.heap.size [.int .i64 x] i _ a1 (by simp only[zC9];omega);have hdl:((bf.map (Value.int .i64)).drop i).length=bf.length - i:=sMp;obtain⟨c2,q1,q2,q3,q4,q5,q6⟩:=jM w.heap.size ((bf.map (Value.int .i64)).drop i) (i+1) (((w.alloc (.cells row T)).drew.setCells w.heap.size i [.int .i64 x]).drew) (c:=c1) (T:=T) (fr:=(0,0)) g1 (by rw[hdl,g2];omega);have hk:∀k,k≠w.heap.size→((((w.alloc (.cells row T)).drew.setCells w.heap.size i [.int .i64 x]).drew).setCells w.heap.size (i+1) ((bf.map (Value.int .i64)).drop i)).heap[k]? = w.heap[k]? := fun k hk=>by
  rw[q4 k hk];show((w.alloc (.cells row T)).drew.setCells w.heap.size i [.int .i64 x]).heap[k]? = _;rw[g4 k hk];show(w.alloc (.cells row T)).heap[k]? = _;rw[heap_alloc,if_neg hk]
 have hsz:((((w.alloc (.cells row T)).drew.setCells w.heap.size i [.int .i64 x]).drew).setCells w.heap.size (i+1) ((bf.map (Value.int .i64)).drop i)).heap.size=w.heap.size+1:=by
  rw[q5];show((w.alloc (.cells row T)).drew.setCells w.heap.size i [.int .i64 x]).heap.size=_;rw[g5];show(w.alloc (.cells row T)).heap.size=_;simp
 have mJ:ct w ((((w.alloc (.cells row T)).drew.setCells w.heap.size i [.int .i64 x]).drew).setCells w.heap.size (i+1) ((bf.map (Value.int .i64)).drop i)) :=
  (ct.trans (w':=(w.alloc (.cells row T)).drew) (by exact⟨⟨rfl,rfl⟩,rfl,zBl _⟩) g6).trans (ct.trans (w':=((w.alloc (.cells row T)).drew.setCells w.heap.size i [.int .i64 x]).drew) (by exact⟨⟨rfl,rfl⟩,rfl,zBl _⟩) q6)
 have hnl:(bf.take i++x::bf.drop i).length=bf.length+1:=by simp;omega
 have zM:∀j,j<bf.length+1→c2.getD j undef=.int .i64 ((bf.take i++x::bf.drop i).getD j 0):=fun j hj=>by
  rw[q3,hdl];by_cases h1:i+1≤j∧j<i+1+(bf.length - i)
  · rw[if_pos h1];have e:j - i=(j - (i+1))+1:=oM;simp only[zB5,zA7 (show(bf.take i).length≤j by rw[zAg];omega),zAg,zDy hi,e,zBv,zBg,zA3];rw[zA1 (show i+(j - (i+1))<bf.length by omega)];rfl
  · rw[if_neg h1,g3];by_cases h2:i≤j∧j<i+[Value.int .i64 x].length
    · rw[if_pos h2];have e:j=i:=by simp only[zC9] at h2;omega
      subst e;simp only[zB5,zA7 (show(bf.take j).length≤j by rw[zAg];omega),zAg,zDy hi,Nat.sub_self];rfl
    · rw[if_neg h2];simp only[zC9] at h2;rw[iL j oM];simp only[zB5,zA8 (show j<(bf.take i).length by rw[zAg];omega),zB8,if_pos (show j<i by omega)]
 have:=h.newRow (es':=(bf.take i++x::bf.drop i).map fun n=>[AV.int n]) hσ hB q1 hsz hk mJ (by rw[lLm,hnl,q2,g2];omega) (fun e he=>by
  obtain⟨n,_,rfl⟩:=zAf.1 he;rfl) (fun j e a he ha=>by
  rw[zA3] at he;have hj:j<bf.length+1:=by
   rw[←hnl];rcases nLg j (bf.take i++x::bf.drop i).length with h|h
   · exact h
   · rw[zA2 h] at he;cases he
  rw[zM j hj];rw[zA1 (by rw[hnl];exact hj)] at he;cases he;cases ha;rw[zB5,zA1 (by rw[hnl];exact hj)];exact .prim _)
 exact⟨_,this.1,q2.trans g2,this.2⟩
section
variable {P:Program} {n:Nat} {ops:Array Oper} {o:Oper} {env:Env} {σ:aa} {T:Tab} {k:Env→aa→Prop}
theorem PRun.lA (hT:T.Ok P) (q qH HK:Nat) {t:TypeId} {x y:Operand} {l sz off len ver:Nat} {es:List (List AV)} {kd:IntKind} {i:Int} (ho:o.op=.slice t x (some y) none none) (hx:rdv env x=some (.sla l sz off len ver)) (nx:rdn env x)
 (hy:rdv env y=some (.prim (.int kd i))) (hie:i=(q:Int)) (ny:rdn env y) (hl:eE T t=some sz) (hσ:σ[l]? = some (.arr sz ver es)) (h1:q≤len) (h2:off+q=qH) (h3:len - q=HK):PRun P o env σ (.sla l sz qH HK ver):=by
 subst h2;subst h3;subst hie;exact PRun.tw hT ho hx nx hy ny hl hσ ⟨oM,oM⟩
end
end Go.Ab
