/- Parts of the proof. No statement is proved here. -/
import Derived.Laws.IdiomCopy
import Derived.Test.YthiaimakjmhegaaGreatDoorP10
import Derived.Test.YthiaimakjmhegaaGreatDoorP11
import Derived.Test.YthiaimakjmhegaaGreatDoorP12
import Derived.Test.YthiaimakjmhegaaGreatDoorP14
set_option linter.unusedVariables false
set_option linter.unusedSimpArgs false
set_option maxHeartbeats 16000000
set_option maxRecDepth 20000
namespace Go.Proofs.YthiaimakjmhegaaGreatDoor.Al
open Go.Ab Go.Sort
deriving instance DecidableEq for Score
def HP (n:bk):bk:={ n with id:=0,bar:=0 }
def alike (x y:bk):Bool:=HP x==HP y
def ix (l:List bk) (n:bk):Nat:=l.countP fun x=>alike x n
abbrev PL:=List (Int×Int)
def HQ (ps:PL) (i:Int):Bool:=ps.any fun p=>p.1==i
def f1 (x y:bk):Bool:=x.id==y.id&&x.part==y.part
def f2 (x y:bk):Bool:=alike x y
def f3 (x y:bk):Bool:=x.part==y.part&&(x.fT==y.fT&&(x.ln==y.ln&&x.start==y.start))
end Go.Proofs.YthiaimakjmhegaaGreatDoor.Al
namespace Go.Ab
theorem EStep.tm {P:Program} {n:Nat} {ops:Array Oper} {o:Oper} {env:Env} {σ:ae} {T:Tab} {k:Env→ae→Prop} (hT:T.Ok P) {s x:Operand} {t tx e:TypeId} {d l sz ver m:Nat} {es es2 es3:List (List AV)} {u S:AV} {s1 b1:Nat} {z:List Z} {le:LI} (ho:o.op=.call { callee:=.builtin .append,args:=#[s,x],argTypes:=#[t,tx] })
 (hg:o.guard=none) (hd:o.dst=some d) (hdn:d<n) (hs:Rd env s S) (hS0:S=.sla l sz 0 es.length ver∧es≠[]∨S=.sl sz [] (.own l)∧es=[]∧ver=0) (hσ:σ[l]? = some (.arr sz ver es)) (hx:Rd env x u) (iJ:fZ T tx sz u es2) (cK:0<es2.length)
 (hl:LOk P t ⟨.slice e,s1,b1,z⟩) (he:LOk P e le) (hsz:le.size=sz) (hz0:le.zero.length=le.size) (hbound:(es.length+es2.length) * le.bytes≤140737488355328) (hb2:es.length+es2.length≤9223372036854775807) (hm:es.length+es2.length=m) (h3:es++es2=es3)
 (hk:k (env.put d (.sla l sz 0 m (ver+1))) (σ.set l (.arr sz (ver+1) es3))):EStep P n ops o k env σ:=by
 subst hm;subst h3;exact EStep.Dx hT ho hg hd hdn hs hS0 hσ hx iJ cK hl he hsz hz0 hbound hb2 hk
end Go.Ab
namespace Go.Proofs.YthiaimakjmhegaaGreatDoor.Al
open Go.Ab Go.Sort
attribute [local irreducible] AWP AOps EStep AQ PStep PRun PCall TCall VCall
def keyB (n:bk):List Int:=[n.part,n.fT,n.ln,n.start.n,n.start.d,n.len.n,n.len.d,n.pitch.step,n.pitch.alter,n.pitch.oct]
def bIn (n:bk):Prop:=∀x∈keyB n,-1000000000000000000≤x∧x≤1000000000000000000
instance (n:bk):Decidable (bIn n):=by unfold bIn;infer_instance
end Go.Proofs.YthiaimakjmhegaaGreatDoor.Al
namespace Go.Proofs.YthiaimakjmhegaaGreatDoor.Al
open Go.Ab Go.Sort
def np (l:PL):List (Nat×Nat):=l.map fun p=>(p.1.toNat,p.2.toNat)
end Go.Proofs.YthiaimakjmhegaaGreatDoor.Al
namespace Go.Ab
section
variable {P:Program} {n:Nat} {K:Exit→Env→ae→Prop} {env:Env}
end
end Go.Ab
namespace Go.Proofs.YthiaimakjmhegaaGreatDoor.Al
open Go.Ab Go.Sort
abbrev KeyP:=Int×Int
abbrev GL:=List (KeyP×(List bk×Tok))
def Kf (v:List bk×Tok):Nat:=match v.2 with|.own _=>v.1.length|_=>0
def bB (al:GL) (N:Nat):ae:=(List.range N).map fun j=>.own 12 (match al[j]? with|some p=>Kf p.2|none=>0)
end Go.Proofs.YthiaimakjmhegaaGreatDoor.Al
namespace Go.Ab
theorem AWP.Kg {P:Program} {n:Nat} (eff:Oper→Bool) {id:Nat} {l:List Oper} {K:Exit→Env→ae→Prop} {env:Env} {σ:ae} (S:Nat→ae) (h0:S 0=σ)
 (hm:P.follows .mixedOrders=true) (hB:Region.lexB .any l.toArray=true) (hd:eF n l.toArray=true) (hE:xk .any l.toArray eff (pF l eff) (pE l eff) (fy l eff) l.length 0 (Array.replicate l.length false)=true)
 (h:∀U:Env→Nat→Prop,(∀e j,K .normal e (S j)→U e j)→YQ P n l.toArray S eff (pF l eff) (pE l eff) (fy l eff) U l 0 env 0):AWP P n (.region id l.toArray true) K env σ:=by
 subst h0;intro G a w hr;simp only[Region.lexB,zA0] at hB;refine wpIn_region_any hm ?_;have:=rM (md:=.any) l 0 (Array.replicate l.toArray.size false) env 0 sMp (by simpa using hE) (by simpa using hB.2) (h (fun e j=>K .normal e (S j)) fun _ _ h=>h);refine dI _ hd _ _ env 0 (by simpa using this) G a _ ⟨hr.size,hr.defers,hr.bh,hr.st.drew⟩ _ ?_;intro G' aw j' a' w' hg hk hr';exact⟨aw,S j',G',hk,hg,hr'⟩
end Go.Ab
namespace Go.Proofs.YthiaimakjmhegaaGreatDoor.Al
open Go.Ab Go.Sort
attribute [local irreducible] AWP AOps EStep AQ PStep PRun PCall TCall VCall
end Go.Proofs.YthiaimakjmhegaaGreatDoor.Al
namespace Go.Ab
section
variable {P:Program} {n:Nat} {K:Exit→Env→ae→Prop} {env:Env} {σ:ae}
theorem AWP.yb {c:Code} (d sz:Nat) (hd:env d=.nils) (hk:AWP P n c K (env.put d (.sl sz [] .fresh)) σ):AWP P n c K env σ :=
 AWP.weaken (fun M B i x hx=>by
  unfold Env.put;by_cases hi:i=d
  · subst hi;rw[hd] at hx;rw[if_pos rfl];cases hx with
    |nils=>exact .slz sz .fresh rfl
  · rw[if_neg hi];exact hx) hk
theorem EStep.I0 {ops:Array Oper} {o:Oper} {T:Tab} {k:Env→ae→Prop} (hT:T.Ok P) {s x:Operand} {t tx e:TypeId} {d l sz m:Nat} {es es2 es3:List (List AV)} {tk:Tok} {u:AV} {s1 b1:Nat} {z:List Z} {le:LI} (ho:o.op=.call { callee:=.builtin .append,args:=#[s,x],argTypes:=#[t,tx] })
 (hg:o.guard=none) (hd:o.dst=some d) (hdn:d<n) (htok:tk=.own l∨es=[]∧tk=.fresh) (hs:Rd env s (.sl sz es tk)) (hσ:σ[l]? = some (.own sz es.length)) (hx:Rd env x u) (iJ:fZ T tx sz u es2) (cK:0<es2.length)
 (hl:LOk P t ⟨.slice e,s1,b1,z⟩) (he:LOk P e le) (hsz:le.size=sz) (hz0:le.zero.length=le.size) (hbound:(es.length+es2.length) * le.bytes≤140737488355328) (hb2:es.length+es2.length≤9223372036854775807) (h3:es++es2=es3) (hm:es.length+es2.length=m)
 (hk:k (env.put d (.sl sz es3 (.own l))) (σ.set l (.own sz m))):EStep P n ops o k env σ:=by
 subst h3;subst hm;rcases htok with rfl|⟨rfl,rfl⟩
 · exact EStep.dH hT ho hg hd hdn hs hσ hx iJ hl he hsz hz0 hbound hb2 hk
 · refine EStep.FP hT ho hg hd hdn hs hσ hx iJ cK hl he hsz hz0 (by simpa using hbound) (by simpa using hb2) ?_;simpa using hk
def bZ (σ:ae) (u v:AV):Prop:=∀(G:Gh) (w:World),aC G σ w→∀x,ag G.M G.B u x→ag (bH w) [] v x
theorem bZ.bor (k:Nat) (u:AV):bZ σ u (bor k σ u):=fun _ _ hs x h=>iB hs k u x h
theorem bZ.of {u v:AV} (k:Nat) (h:Go.Ab.bor k σ u=v):bZ σ u v:=h▸bZ.bor k u
theorem bZ.cm {l sz i ver:Nat} {es:List (List AV)} {e:List AV} (hσ:σ[l]? = some (.arr sz ver es)) (hi:i<es.length) (he:(es.getD i []).map (Go.Ab.bor 3 σ)=e):bZ σ (.cm l sz i 0 ver) (.iptr e):=fun G w hs x h=>by
 subst he;cases h with
 | cm _ _ _ _ _ b q hrr =>
   obtain⟨ob,cap,n,hB,hle,heq⟩:=hrr;have ho:=hs.bB l _ _ hB hσ;cases ho with
   |arrz=>simp at hi
   | arr b2 cap2 sz2 ver2 es2 c T fr hb hf hl hn hz hr hm =>
     obtain⟨g1,g2,g3,g4⟩:=heq rfl;obtain rfl:b2=b:=Option.some.inj g4;subst g3;have e1:es[i]? = some es[i]:=zA1 hi;have e2:es.getD i []=es[i]:=by rw[zB2,e1];rfl
     have hzl:=hz es[i] (lGm hi);refine .iptr _ b2 _ (fun j=>c.getD (i * sz+0+j) undef) (fun j hj=>?_) fun j c' hj=>?_
     · rw[e2,lLm,hzl] at hj;have hlt:i * sz+0+j<c.size:=by
        rw[hl];have:(i+1) * sz≤cap * sz:=zAv _ oM;rw[zB5] at this;omega
       have cr:i * sz+j<c.size:=by rw[zBq] at hlt;exact hlt
       simp[bH,World.cell?,hb,cr]
     · rw[e2,zA5,zA6] at hj;obtain⟨a,ha,rfl⟩:=hj;exact iB hs 3 _ _ (hr i j es[i] a e1 ha)
theorem bZ.fn {f:Fn} {a c a' c':List AV} (ha:a'.length=a.length) (hc:c'.length=c.length) (h1:∀(i:Nat) u v,a[i]? = some u→a'[i]? = some v→bZ σ u v) (h2:∀(i:Nat) u v,c[i]? = some u→c'[i]? = some v→bZ σ u v):bZ σ (.fn f a c) (.fn f a' c'):=fun G w hs x h=>by
 cases h with
 | fn _ _ _ vf vc hf hc0 g1 g2 =>
   refine .fn f a' c' vf vc (hf.trans ha.symm) (hc0.trans hc.symm) (fun i v hi=>?_) fun i v hi=>?_
   · have hlt:i<a.length:=by rw[←ha];exact(zAb.1 hi).1
     exact h1 i _ v (zA1 hlt) hi G w hs _ (g1 i _ (zA1 hlt))
   · have hlt:i<c.length:=by rw[←hc];exact(zAb.1 hi).1
     exact h2 i _ v (zA1 hlt) hi G w hs _ (g2 i _ (zA1 hlt))
def qF (σ:ae):List AV→List AV→Prop
 |[],[]=>True
 |u::l,v::m=>bZ σ u v∧qF σ l m
 |_,_=>False
theorem qF.get:∀{l m:List AV},qF σ l m→m.length=l.length∧∀(i:Nat) (c:AV),m[i]? = some c→∃u,l[i]? = some u∧bZ σ u c
 |[],[],_=>⟨rfl,fun i c h=>by cases h⟩
 | u :: l, v :: m, h => by
   obtain⟨h1,h2⟩:=qF.get h.2;refine⟨by rw[zAd,zAd,h1],fun i c hi=>?_⟩
   match i,hi with
   |0,hi=>cases hi;exact⟨u,rfl,h.1⟩
   |i+1,hi=>exact h2 i c hi
 |[],_::_,h=>h.elim
 |_::_,[],h=>h.elim
theorem bZ.fn1 {f:Fn} {u v:AV} (h:bZ σ u v):bZ σ (.fn f [] [u]) (.fn f [] [v]):=bZ.fn rfl rfl (fun i _ _ hi _=>by cases hi) fun i a b hi hj=>by
 match i,hi,hj with
 |0,hi,hj=>cases hi;cases hj;exact h
 |i+1,hi,_=>cases hi
theorem PRun.wF {o:Oper} {fo:Operand} {args:Array Operand} {Ts:Array TypeId} {k:Nat} {first aQ avs:List AV} {r:AV} (h:PCall P k avs r)
 (ho:o.op=.call { callee:=.value fo,args:=args,argTypes:=Ts }) (hf0:rdv env fo=some (.fn (.func k) first aQ)) (nf:rdn env fo)
 (ha:qF σ (first++((args.toList.map fun x=>(c9 env x).st)++aQ)) avs) (hr:flat r=true) (hn:eW env args.toList):PRun P o env σ r:=by
 have hf:=Rd.w hf0 nf;have hn:=jE hn;intro G a w hs hv;have h1:=rd hf (by simp[ho,Op.operands,Call.operands]) hv;generalize hA:a.eval fo=y at h1;cases h1 with
 | fn _ _ _ vf vc hvf hvc h2 h3 =>
   have bl:(execOp a.eval o).run P w=.ok (.enter k (vf++args.map a.eval++vc)) w:=by
    simp only[execOp,ho,resolve,hA,Deferred.ofValue,Sem.run_bind,Sem.run_pure,Result.andThen_ok,invoke];exact eU h.1 _ w
   unfold OWP;rw[bl];simp only[fb];have gT:gL (bH w) avs (vf++args.map a.eval++vc):=by
    obtain⟨ha1,ha2⟩:=ha.get;have hl:=hvf;have hl2:=hvc;refine⟨by simp only[ha1,lLa,lLm,zDt,Array.size_map,zBp,hl,hl2,zC4],fun i c hi0=>?_⟩;obtain⟨c',hi,hle⟩:=ha2 i c hi0;refine hle G w hs _ ?_;rcases nLg i vf.size with hlt|hge
    · rw[zA8 (by simpa[←hl] using hlt)] at hi;have:=h2 i c' hi;have e:(vf++args.map a.eval++vc).getD i undef=vf.getD i undef:=by
       simp only[zA2];rw[zBs,zAl hlt]
      rw[e];exact this
    · rw[zA7 (by simpa[←hl] using hge)] at hi;simp only[←hl] at hi;rcases nLg (i - vf.size) args.size with cr|hge2
      · rw[zA8 (by simpa using cr)] at hi;simp only[zA5,zA6] at hi;obtain⟨x,hx,rfl⟩:=hi;have hxm:x∈args.toList:=zAc hx;have:=rd (hn.rd x hxm) (by simp[ho,Op.operands,Call.operands];right;simpa using hxm) hv;have e:(vf++args.map a.eval++vc).getD i undef=a.eval x:=by
         simp only[zA2];rw[zBs,zB1 hge,zAl (by simpa using cr)];simp only[zB7] at hx;simp[hx]
        rw[e];exact this
      · rw[zA7 (by simpa using hge2)] at hi;simp only[lLm,zBp] at hi;have:=h3 _ c' hi;have e:(vf++args.map a.eval++vc).getD i undef=vc.getD (i - vf.size - args.size) undef:=by
         simp only[zA2];rw[zBs,zB1 hge,zB1 (by simpa using hge2)];simp
        rw[e];exact this
   refine(h.2 (bH w) w _ (rE w (hs.ay.g.mono (rF hs.ay))) gT).mono ?_;rintro e w' ⟨v,M',rfl,hr',hp⟩;refine⟨v,G,rfl,rG hr hr',Gh.Le.refl G,?_⟩;have hp':pt G.M w G.M w':=⟨Mem.Le.refl _,⟨fun b o v hb=>by
    have h1:=hs.ay.1 b o v hb;have hlt:=World.block_lt_of_cell? _ _ h1;simp only[World.cell?] at h1 ⊢;rw[hp.heap b hlt];exact h1,fun b es hb=>by
    obtain⟨clock,h1⟩:=hs.ay.2 b es hb;have hlt:b<w.heap.size:=by
     rcases nLg b w.heap.size with h|h
     · exact h
     · simp[zAj h] at h1
    exact⟨clock,by rw[hp.heap b hlt];exact h1⟩,hs.ay.g⟩,hp.size,hp.heap,fun _ _=>⟨fun _=>rfl,rfl⟩,hp.out⟩
   exact hs.after hp'
end
end Go.Ab
namespace Go.Ab
section
variable {P:Program} {n:Nat} {ops:Array Oper} {o:Oper} {env:Env} {σ:ae} {T:Tab} {k:Env→ae→Prop}
def At (l sz:Nat):Nat→AV
 |0=>.sl sz [] (.own l)
 |k+1=>.sla l sz 0 (k+1) 0
theorem At.val {M:Mem} {B:List GB} {l sz len b cap:Nat} (hB:B[l]? = some (.own (some b) cap 0)) {x:Value} (h:ag M B (At l sz len) x):x=.slice (some ⟨b,0,none⟩) len cap:=by
 cases len with
 | zero =>
   unfold At at h;cases h with
   | sl _ _ _ b1 off dK f hz hm hr' hc ht =>
     obtain⟨ob',cp,n',g1,g2,g3⟩:=ht;rw[hB] at g1;simp at g1;obtain⟨rfl,rfl,rfl⟩:=g1;obtain⟨g4,g5⟩:=g3 rfl;simp at g4;obtain⟨rfl,rfl⟩:=g4;subst g5;rfl
   | slz _ _ ht =>
     obtain⟨ob',cp,n',g1,g2,g3⟩:=ht;rw[hB] at g1;simp at g1;obtain⟨rfl,rfl,rfl⟩:=g1;obtain⟨g4,g5⟩:=g3 rfl;simp at g4
 | succ m =>
   unfold At at h;cases h with
   | sla _ _ _ _ _ a c hr =>
     obtain⟨ob',dK,n',g1,g2,g3⟩:=hr;rw[hB] at g1;simp at g1;obtain⟨rfl,rfl,rfl⟩:=g1;obtain⟨g4,g5⟩:=g3 rfl;rcases g5 with g5|⟨rfl,rfl⟩
     · omega
     · simp
theorem At.mk {M:Mem} {B:List GB} {l sz len b cap:Nat} (hB:B[l]? = some (.own (some b) cap 0)) (hle:len≤cap):ag M B (At l sz len) (.slice (some ⟨b,0,none⟩) len cap):=by
 cases len with
 | zero =>
   unfold At;exact .sl sz [] (.own l) b 0 cap (fun _ _=>undef) (fun e he=>by cases he) (fun i j hi=>by cases hi) (fun i j e c h=>by simp at h) (nZl _) ⟨some b,cap,0,hB,nLr _,fun _=>⟨rfl,rfl⟩⟩
 | succ m =>
   unfold At;exact .sla l sz 0 (m+1) 0 _ _ ⟨some b,cap,0,hB,nLr _,fun _=>⟨oM,.inr ⟨rfl,by simp⟩⟩⟩
theorem PRun.lJ (hT:T.Ok P) {t:TypeId} {x y y' y'':Operand} {l sz len:Nat} {es:List (List AV)} {kd kd' kd'':IntKind} {i j:Int} (ho:o.op=.slice t x (some y) (some y') (some y'')) (hx:rdv env x=some (.sla l sz 0 len 0)) (nx:rdn env x)
 (hy:rdv env y=some (.prim (.int kd i))) (ny:rdn env y) (hy':rdv env y'=some (.prim (.int kd' j))) (ny':rdn env y') (hy'':rdv env y''=some (.prim (.int kd'' len))) (ny'':rdn env y'') (hl:dO T t=some sz) (hσ:σ[l]? = some (.arr sz 0 es)) (cK:0<len) (h:0≤i∧i≤j∧j≤len) (hil:i<len):PRun P o env σ .any :=
 .of fun G A w hs hv=>by
  have hX:=rd (Rd.w hx nx) (by simp[ho,Op.operands]) hv;have e':=ag.aJ (rd (Rd.w hy ny) (by simp[ho,Op.operands]) hv);have e2:=ag.aJ (rd (Rd.w hy' ny') (by simp[ho,Op.operands]) hv);have e3:=ag.aJ (rd (Rd.w hy'' ny'') (by simp[ho,Op.operands]) hv);obtain⟨e,s1,b1,z,li,h1,h2,h3⟩:=dh hT hl;obtain⟨i,rfl⟩:=zBk h.1;obtain⟨j,rfl⟩:=zBk (Int.le_trans h.1 h.2.1);have hij:i≤j:=oM;have hjl:j≤len:=oM;obtain⟨ob,cap,hB,hne,hob⟩:=cR hs hσ;generalize hA:A.eval x=v at hX;cases hX with
  | sla _ _ _ _ _ a c hq =>
    obtain⟨ob',dK,n',g1,g2,g3⟩:=hq;rw[hB] at g1;simp at g1;obtain⟨rfl,rfl,rfl⟩:=g1;obtain⟨g4,g5⟩:=g3 rfl;rcases g5 with g5|⟨hcc,rfl⟩
    · omega
    have hcc:c=cap:=oM;subst hcc;have b1:=fun code=>de (P:=P) (k:=kd) (i:=(i:Int)) (y:=j) (code:=code) w ⟨oM,oM⟩
    have b2:=fun code=>de (P:=P) (k:=kd') (i:=(j:Int)) (y:=len) (code:=code) w ⟨oM,oM⟩
    have b3:=fun code=>de (P:=P) (k:=kd'') (i:=(len:Int)) (y:=c) (code:=code) w ⟨oM,oM⟩
    cases ob with
    | none =>
      exfalso;have ho:=hs.bB l _ _ hB hσ;cases ho;omega
    | some b =>
      have hil:i<len:=oM;have ov:¬len - i=0:=oM;refine⟨.slice (some ⟨b,i * sz,none⟩) (j - i) (len - i),?_,.any _⟩;simp only[execOp,ho,hA,Instr.sliceAt,Instr.slice,zD1,zBa];simp[h1.slice w,h2.cg w,h3,Instr.sliceBounds,e',e2,e3,b1,b2,b3,cq,ov];intro h;omega
theorem PRun.oJ (hT:T.Ok P) {t:TypeId} {x y:Operand} {l sz len:Nat} {es:List (List AV)} {kd:IntKind} (ho:o.op=.slice t x none (some y) none) (hx:rdv env x=some (.sla l sz 0 len 0)) (nx:rdn env x)
 (hy:rdv env y=some (.prim (.int kd 0))) (ny:rdn env y) (hl:dO T t=some sz) (hσ:σ[l]? = some (.arr sz 0 es)) (cK:0<len):PRun P o env σ (.sl sz [] (.own l)) :=
 .of fun G A w hs hv=>by
  have hX:=rd (Rd.w hx nx) (by simp[ho,Op.operands]) hv;have e':=ag.aJ (rd (Rd.w hy ny) (by simp[ho,Op.operands]) hv);obtain⟨e,s1,b1,z,li,h1,h2,h3⟩:=dh hT hl;obtain⟨ob,cap,hB,hne,hob⟩:=cR hs hσ;generalize hA:A.eval x=v at hX;cases hX with
  | sla _ _ _ _ _ a c hq =>
    obtain⟨ob',dK,n',g1,g2,g3⟩:=hq;rw[hB] at g1;simp at g1;obtain⟨rfl,rfl,rfl⟩:=g1;obtain⟨g4,g5⟩:=g3 rfl;rcases g5 with g5|⟨hcc,rfl⟩
    · omega
    have hcc:c=cap:=oM;subst hcc;have hrb:=de (P:=P) (k:=kd) (i:=(0:Int)) (y:=c) (code:=.sliceAcap) w ⟨oM,oM⟩;cases ob with
    | none =>
      exfalso;have ho:=hs.bB l _ _ hB hσ;cases ho;omega
    | some b =>
      refine⟨.slice (some ⟨b,0,none⟩) 0 c,?_,At.mk (len:=0) hB (nZl _)⟩;simp only[execOp,ho,hA,Instr.sliceAt,Instr.slice,zD1,zBa];simp only[Int.toNat_zero] at hrb;simp[h1.slice w,h2.cg w,h3,Instr.sliceBounds,e',hrb,cq]
theorem PRun.ki (hT:T.Ok P) {t:TypeId} {x y y':Operand} {l sz:Nat} (len hi:Nat) {S:AV} {es:List (List AV)} {kd kd':IntKind} (ho:o.op=.slice t x (some y) (some y') none) (hx:rdv env x=some S) (nx:rdn env x) (hS:S=At l sz len)
 (hy:rdv env y=some (.prim (.int kd (len:Nat)))) (ny:rdn env y) (hy':rdv env y'=some (.prim (.int kd' (hi:Nat)))) (ny':rdn env y') (hl:dO T t=some sz) (hσ:σ[l]? = some (.arr sz 0 es)) (h:len<hi∧hi≤es.length):PRun P o env σ (.sla l sz len (hi - len) 0) :=
 .of fun G A w hs hv=>by
  subst hS;have hX:=rd (Rd.w hx nx) (by simp[ho,Op.operands]) hv;have e':=ag.aJ (rd (Rd.w hy ny) (by simp[ho,Op.operands]) hv);have e2:=ag.aJ (rd (Rd.w hy' ny') (by simp[ho,Op.operands]) hv);obtain⟨e,s1,b1,z,li,h1,h2,h3⟩:=dh hT hl;obtain⟨ob,cap,hB,hne,hob⟩:=cR hs hσ;obtain⟨b,rfl⟩:=hne (by intro e;rw[e] at h;simp at h;omega);obtain⟨c,T',fr,hb,hf,hlc,hn,hz,bU,hm⟩:=hob b rfl;have hA:=At.val hB hX;have b1:=fun code=>de (P:=P) (k:=kd) (i:=(len:Int)) (y:=hi) (code:=code) w ⟨oM,oM⟩
  have b2:=fun code=>de (P:=P) (k:=kd') (i:=(hi:Int)) (y:=cap) (code:=code) w ⟨oM,oM⟩
  refine⟨.slice (some ⟨b,len * sz,none⟩) (hi - len) (cap - len),?_,.sla _ sz _ _ 0 _ _ ⟨some b,cap,0,hB,nLr _,fun _=>⟨oM,.inr ⟨rfl,rfl⟩⟩⟩⟩;simp only[execOp,ho,hA,Instr.sliceAt,Instr.slice,zD1,zBa];have ov:¬cap - len=0:=oM;simp[h1.slice w,h2.cg w,h3,Instr.sliceBounds,e',e2,b1,b2,cq,ov];intro h;omega
theorem EStep.kj (hT:T.Ok P) {s x:Operand} {t tx e ex:TypeId} {d l sz:Nat} (i j m:Nat) {es es':List (List AV)} {S R:AV} {s1 b1 s2 b2:Nat} {z z2:List Z} {le:LI} (ho:o.op=.call { callee:=.builtin .append,args:=#[s,x],argTypes:=#[t,tx] })
 (hg:o.guard=none) (hd:o.dst=some d) (hdn:d<n) (hs:Rd env s S) (hS:S=At l sz i) (hR:R=At l sz (i+m)) (hσ:σ[l]? = some (.arr sz 0 es)) (hx:Rd env x (.sla l sz j m 0)) (jh:∀x∈es,x.all eH=true)
 (hl:LOk P t ⟨.slice e,s1,b1,z⟩) (hlx:LOk P tx ⟨.slice ex,s2,b2,z2⟩) (he:LOk P e le) (hsz:le.size=sz) (hlen:0<es.length) (him:i+m≤es.length) (hjm:j+m≤es.length) (hes:es'=es.take i++((es.drop j).take m++es.drop (i+m)))
 (hk:k (env.put d R) (σ.set l (.arr sz 0 es'))):EStep P n ops o k env σ:=by
 subst hS;subst hR;refine EStep.plain hg fun G a w hr=>?_
 have h1:=hr.rd hs;have h2:=hr.rd hx;generalize hA:a.eval s=sv at h1;generalize hX:a.eval x=xv at h2;obtain⟨ti,hi1,hi2,hi3,hi4⟩:=he.info;have eJ:=hl.dB;have Ly:=hlx.dB;obtain⟨ob,cap,hB,hne,hob⟩:=cR hr.st hσ;obtain⟨b,rfl⟩:=hne (by intro e;rw[e] at hlen;simp at hlen);obtain⟨c,T',fr,hb,hf,hlc,hn,hz,bU,hm⟩:=hob b rfl;have hA':=At.val hB h1;subst hA'
 -- the cells that are read
 have fc:∀q,q<m * sz→j * sz+q<c.size:=fun q hq=>by
  have:(j+m) * sz≤cap * sz:=zAv _ oM;rw[zB5] at this;rw[hlc];omega
 have dX:∀q,q<m * sz→∃e0 u,es[j+q / sz]? = some e0∧e0[q % sz]? = some u∧ag G.M G.B u (c.getD (j * sz+q) undef)∧eH u=true:=fun q hq=>by
  obtain⟨g1,g2,g3⟩:=ic hq;have hlt:j+q / sz<es.length:=oM;have hel:=hz _ (lGm hlt);have cr:q % sz<(es[j+q / sz]).length:=oM;refine⟨es[j+q / sz],(es[j+q / sz])[q % sz],zA1 hlt,zA1 cr,?_,zA4.1 (jh _ (lGm hlt)) _ (lGm cr)⟩;have:=bU (j+q / sz) (q % sz) _ _ (zA1 hlt) (zA1 cr);rw[zB5,zC4,←g3] at this;exact this
 obtain⟨news,mm⟩:∃news:List Value,news=(List.range (m * sz)).map fun q=>c.getD (j * sz+q) undef:=⟨_,rfl⟩
 have hNl:news.length=m * sz:=by rw[mm];simp
 have hNg:∀q,q<m * sz→news.getD q undef=c.getD (j * sz+q) undef:=fun q hq=>by rw[mm];simp[List.getD,hq]
 have HR:∀u∈news,u.oneCell'=true:=fun u hu=>by
  rw[mm,lMm] at hu;obtain⟨q,hq,rfl⟩:=hu;obtain⟨e0,u,_,_,g3,g4⟩:=dX q (zAs.1 hq);exact js g4 g3
 have jQ:∀w':World,w'.heap=w.heap→(Builtin.firstCells sz m xv).run P w'=.ok news.toArray w':=fun w' hw=>by
  cases h2 with
  | sla _ _ _ _ _ ad c2 hq =>
    obtain⟨ob',dK,n',g1,g2,g3⟩:=hq;rw[hB] at g1;simp at g1;obtain⟨rfl,rfl,rfl⟩:=g1;obtain⟨g4,g5⟩:=g3 rfl;rcases zBe m with h0|h0
    · subst h0;have:news=[]:=zAr (by rw[hNl,zD2]);subst this;cases ad<;>simp[Builtin.firstCells,loadCells,loadCellsFrom]
    · rcases g5 with g5|⟨rfl,rfl⟩
      · omega
      have:=run_loadCells_list (P:=P) w' ⟨b,j * sz,none⟩ news (fun q v hq=>by
       have hq2:=(zAb.1 hq).1;rw[hNl] at hq2;have hv:news.getD q undef=v:=by simp[List.getD,hq]
       rw[hNg q hq2] at hv;have h3:=fc q hq2;have hb':w'.heap[b]? = some (.cells c T' fr):=by rw[hw];exact hb
       simp[World.cell?,cq,hb',h3] at hv ⊢;exact hv)
      rw[hNl] at this;simp only[Option.map,Builtin.firstCells];exact this
 have LA:∀w':World,(Builtin.lenOf xv).run P w'=.ok m w':=fun w'=>by
  cases h2<;>rfl
 have hS:Src P ti.size tx xv m news w:=⟨.inl ⟨_,Ly⟩,LA,by rw[hi2,hsz];exact jQ w rfl,by rw[hi2,hsz];exact jQ w.drew rfl,by rw[hi2,hsz];exact hNl,HR⟩;have hcs:(i+m) * sz≤c.size:=by rw[hlc];exact zAv _ oM
 rw[zB5] at hcs;obtain⟨w',c',r1,r2,r3,r4,r5,r6,j6⟩:=dw (P:=P) (b:=b) (off:=i * sz) (T:=T') (fr:=fr) news 0 c w hb hf HR (by rw[hNl];omega);have bl:=ji (P:=P) w w' t tx o.type e ti eJ hi1 b 0 i cap xv m news hS oM (by rw[hi2,hsz,zBv];exact r1);have dY:(execOp a.eval o).run P w=.ok (.value (.slice (some ⟨b,0,none⟩) (i+m) cap)) w':=by simp[execOp,ho,resolve,invoke,builtin,hA,hX,bl]
 unfold OWP;rw[dY];simp only[zBq] at r6;have n9:G.M.map b=none:=cQ hr.st.ay hb (by intros;simp);have hel:es'.length=es.length:=by
  rw[hes];simp only[lLa,zAn,zB0];omega
 have oK:∀p,es'[p]? = if p<i then es[p]? else if p<i+m then es[p - i+j]? else es[p]? := fun p=>by
  rw[hes];by_cases h0:p<i
  · rw[if_pos h0,zA8 (by rw[zAn];omega),zAw,if_pos h0]
  · rw[if_neg h0,zA7 (by rw[zAn];omega),zAn,zDr oM];by_cases h1:p<i+m
    · rw[if_pos h1,zA8 (by rw[zAn,zB0];omega),zAw,if_pos oM,zB6];congr 1;omega
    · rw[if_neg h1,zA7 (by rw[zAn,zB0];omega),zAn,zB0,zB6];congr 1;omega
 have hs2:aC G (σ.set l (.arr sz 0 es')) w':=by
  refine hr.st.upd hB rfl r2 r3 (.arr b cap sz 0 _ c' T' fr r4 (by rw[r5];exact hf) (by rw[r5];exact hlc) oM (fun e he=>?_) (fun p q e1 av he hj=>?_) hm) ⟨hm,n9⟩ j6
  · rw[hes] at he;rcases zAx.1 he with h|h
    · exact hz e (zC0 h)
    · rcases zAx.1 h with h|h
      · exact hz e (zC9 (zC0 h))
      · exact hz e (zC9 h)
  · rw[oK] at he;have hq:∀e0∈es,e1=e0→q<sz:=fun e0 h0 h3=>by
     have:=(zAb.1 hj).1;rw[h3,hz e0 h0] at this;exact this
    rw[r6,hNl];by_cases h0:p<i
    · rw[if_pos h0] at he;have hqs:=hq _ (zAc he) rfl;have:=dP h0 hqs;rw[if_neg oM];exact bU p q e1 av he hj
    · rw[if_neg h0] at he;by_cases h1:p<i+m
      · rw[if_pos h1] at he;have hqs:=hq _ (zAc he) rfl;have hlt:=dP (i:=p - i) (n:=m) oM hqs;have e2:p * sz+q=i * sz+((p - i) * sz+q):=by
         rw[←zC4,←zB5];congr 2;omega
        rw[e2,if_pos ⟨oM,oM⟩,zCj,hNg _ hlt];have:=bU (p - i+j) q e1 av he hj;rw[zB5,Nat.add_right_comm,zD0] at this;exact this
      · rw[if_neg h1] at he;have:=zAv sz (show i+m≤p by omega);rw[zB5] at this;rw[if_neg oM];exact bU p q e1 av he hj
 refine⟨_,_,G,hk,Gh.Le.refl G,?_⟩;rw[hd];have hr':bf n G env (σ.set l (.arr sz 0 es')) a w':=⟨hr.size,hr.defers,hr.bh,hs2⟩;exact hr'.put hdn (At.mk hB oM)
end
end Go.Ab
namespace Go.Ab
variable {σ:ae}
theorem bZ.sla {l sz len ver:Nat} {es:List (List AV)} (hσ:σ[l]? = some (.arr sz ver es)) (hlen:len=es.length) (cK:0<len):bZ σ (.sla l sz 0 len ver) (.sl sz (es.map fun e=>e.map (Go.Ab.bor 3 σ)) .no):=fun G w hs x h=>by
 subst hlen;cases h with
 | sla _ _ _ _ _ a c hrr =>
   obtain⟨ob,cap,n,hB,hle,heq⟩:=hrr;have ho:=hs.bB l _ _ hB hσ;cases ho with
   |arrz=>simp at cK
   | arr b cap sz ver es c2 T fr hb hf hl hn hz hr hm =>
     obtain⟨g1,g2⟩:=heq rfl;rcases g2 with g2|⟨g3,g4⟩
     · omega
     · subst g4;have e0:(es.map fun e=>e.map (Go.Ab.bor 3 σ)).length=es.length:=lLm ..;have k:=ag.sl (M:=bH w) (B:=[]) sz (es.map fun e=>e.map (Go.Ab.bor 3 σ)) .no b 0 c (fun i j=>c2.getD (i * sz+j) undef) (fun e he=>by
        obtain⟨e1,h1,rfl⟩:=zAq.1 he;rw[lLm];exact hz e1 h1) (fun i j hi hj=>by
        rw[e0] at hi;have hlt:i * sz+j<c2.size:=by
         rw[hl];have:(i+1) * sz≤cap * sz:=zAv _ oM;rw[zB5] at this;omega
        simp[bH,World.cell?,hb,hlt]) (fun i j e cc h1 h2=>by
        rw[zA5,zA6] at h1;obtain⟨e1,h1,rfl⟩:=h1;rw[zA5,zA6] at h2;obtain⟨a1,h2,rfl⟩:=h2;exact iB hs 3 _ _ (hr i j e1 a1 h1 h2)) (by rw[e0,g3];omega) trivial
       rw[e0] at k;have e2:(⟨b,0 * sz,none⟩:Addr)=⟨b,0,none⟩:=by rw[zD2]
       show ag _ _ _ (.slice (some ⟨b,0 * sz,none⟩) es.length c);rw[e2];exact k
theorem bZ.agg {us vs:List AV} (h:qF σ us vs):bZ σ (.agg us) (.agg vs):=fun G w hs x hx=>by
 obtain⟨h1,h2⟩:=h.get;cases hx with
 | agg _ ws hl hr =>
   refine .agg _ ws (hl.trans h1.symm) fun i c hi=>?_
   obtain⟨u,hu,hle⟩:=h2 i c hi;exact hle G w hs _ (hr i u hu)
theorem bZ.sl (sz:Nat) (es:List (List AV)) (t:Tok):bZ σ (.sl sz es t) (.sl sz es .no):=bZ.of 1 rfl
theorem bZ.pr (v:Value):bZ σ (.prim v) (.prim v):=bZ.of 1 rfl
end Go.Ab
namespace Go.Ab
section
variable {P:Program} {n:Nat} {ops:Array Oper} {md:Region.Mode} {S:Nat→ae} {eff:Oper→Bool} {lo hi aI:Nat→Nat}
def si (R:Nat→Nat→Bool) (listed:Array Bool):Prop:=∀m,listed.getD m false=true→∀i,R m i=true→listed.getD i false=true
def tn (md:Region.Mode) (ops:Array Oper) (R:Nat→Nat→Bool):Prop:=∀(k:Nat) (o:Oper),ops[k]? = some o→∀i,R k i=true→∃e∈o.after,Region.binds md e=true∧(e.on=i∨R e.on i=true)
theorem getD_set_true {listed:Array Bool} {k m:Nat} (h:listed.getD m false=true):(listed.setIfInBounds k true).getD m false=true:=by
 by_cases e:k=m
 · subst e;have hlt:k<listed.size:=by
    rcases nLg k listed.size with h'|h'
    · exact h'
    · simp[zAj h'] at h
   simp[hlt]
 · rw[getD_set_ne false e];exact h
theorem si.put {R:Nat→Nat→Bool} (hR:tn md ops R) {listed:Array Bool} (h:si R listed) {k:Nat} (hk:k∈Region.ready md ops listed):si R (listed.setIfInBounds k true):=by
 intro m hm i hi;by_cases e:k=m
 · subst e;obtain⟨_,o,ho,au⟩:=mem_ready.1 hk;obtain⟨x,hx,hb,h1⟩:=hR k o ho i hi;have h2:=au x hx hb;rcases h1 with rfl|h1
   · exact getD_set_true h2
   · exact getD_set_true (h _ h2 i h1)
 · rw[getD_set_ne false e] at hm;exact getD_set_true (h m hm i hi)
theorem si.no {R:Nat→Nat→Bool} (hR:tn md ops R) {listed:Array Bool} (h:si R listed) {k i:Nat} (hk:k∈Region.ready md ops listed) (hi:i∈Region.ready md ops listed):R k i=false:=by
 cases hb:R k i with
 |false=>rfl
 | true =>
   exfalso;obtain⟨_,o,ho,au⟩:=mem_ready.1 hk;obtain⟨x,hx,hbx,h1⟩:=hR k o ho i hb;have h2:=au x hx hbx;have h3:listed.getD i false=true:=by
    rcases h1 with rfl|h1
    · exact h2
    · exact h _ h2 i h1
   have h4:=(mem_ready.1 hi).1;rcases nLg i listed.size with h'|h'
   · simp[h'] at h3 h4;rw[h3] at h4;cases h4
   · simp[zAj h'] at h3
theorem zJ {K:Env→Nat→Prop} {R:Nat→Nat→Bool} (hR:tn md ops R) {i:Nat} {oi:Oper} {v:AV} (hio:ops[i]? = some oi) :
 ∀(fuel:Nat) (listed:Array Bool) (env:Env) (j j1:Nat),si R listed →
  (∀k ok,ops[k]? = some ok→k≠i→listed.getD k true=false→(∀e∈ok.after,Region.binds md e=true→e.on≠i)→oi.apart ops ok=true∧(R k i=false→jJ eff lo hi aI i k oi ok)) →
  i∈Region.ready md ops listed→YS P n ops S eff lo hi aI i oi env j v j1 →
  pC P n md ops S eff lo hi aI K fuel (listed.setIfInBounds i true) (env.br oi.dst v) j1→pC P n md ops S eff lo hi aI K (fuel+1) listed env j:=by
 have take:∀{env:Env} {j j1:Nat} {K:Env→Nat→Prop},YS P n ops S eff lo hi aI i oi env j v j1→K (env.br oi.dst v) j1→yq P n ops S eff lo hi aI i K env j:=fun hy h=>by
  unfold yq;simp only[hio];exact⟨v,_,hy,h⟩
 intro fuel;induction fuel with
 | zero =>
   intro listed env j j1 _ _ hr hy H;refine⟨fun h=>(by rw[h] at hr;cases hr),fun k hk=>?_⟩;by_cases hki:k=i
   · subst hki;exact take hy H
   · have:=ready_mono hk hki;rw[H.1] at this;cases this
 | succ fuel ih =>
   intro listed env j j1 hshut hfree hr hy H;refine⟨fun h=>(by rw[h] at hr;cases hr),fun k hk=>?_⟩;by_cases hki:k=i
   · subst hki;exact take hy H
   · have h1:=H.2 k (ready_mono hk hki);have hno:=hshut.no hR hk hr;obtain⟨pD,ok,hok,au⟩:=mem_ready.1 hk;have jA:∀e∈ok.after,Region.binds md e=true→e.on≠i:=fun e he hb heq=>by
      have h1:=au e he hb;have h0:=(mem_ready.1 hr).1;rw[heq] at h1;rcases nLg i listed.size with h'|h'
      · simp[h'] at h0 h1;rw[h0] at h1;cases h1
      · simp[zAj h'] at h1
     obtain⟨f1,f2⟩:=hfree k ok hok hki pD jA;have h2:=Dr hok f1 (f2 hno) hy h1
     have jB:∀l ol,ops[l]? = some ol→l≠i→(listed.setIfInBounds k true).getD l true=false →
      (∀e∈ol.after,Region.binds md e=true→e.on≠i)→oi.apart ops ol=true∧(R l i=false→jJ eff lo hi aI i l oi ol):=fun l ol hl hli hun hno=>by
      refine hfree l ol hl hli ?_ hno;by_cases hkl:k=l
      · subst hkl;exact pD
      · rw[getD_set_ne true hkl] at hun;exact hun
     refine Ap (fun e' j' h3=>?_) h2;obtain⟨j2,h4,h5⟩:=h3;refine ih (listed.setIfInBounds k true) e' j' j2 (hshut.put hR hk) jB (ready_mono hr (Ne.symm hki)) h4 ?_;rw[zCp _ _ hki];exact h5
def Ec (md:Region.Mode) (ops:Array Oper) (eff:Oper→Bool) (R:Nat→Nat→Bool) (lo hi aI:Nat→Nat) (listed:Array Bool) (i:Nat):Bool:=(List.range ops.size).all fun k=>i==k||listed.getD k true||R k i||match ops[i]?,ops[k]? with
 |some o,some o'=>gU md o' i||!(o.apart ops o')||(!(eff o&&eff o')&&(eff o||!eff o'||decide (aI k≤hi i))&&(!eff o||eff o'||decide (lo k<aI i)))
 |_,_=>true
def wG (md:Region.Mode) (ops:Array Oper) (eff:Oper→Bool) (R:Nat→Nat→Bool) (lo hi aI:Nat→Nat):Nat→Nat→Array Bool→Bool
 |0,_,_=>true
 |f+1,i,listed=>Ec md ops eff R lo hi aI listed i&&wG md ops eff R lo hi aI f (i+1) (listed.setIfInBounds i true)
theorem zK {R:Nat→Nat→Bool} {listed:Array Bool} {i k:Nat} (h:Ec md ops eff R lo hi aI listed i=true) {o o':Oper} (hne:k≠i) (h1:ops[i]? = some o) (h2:ops[k]? = some o') (hun:listed.getD k true=false) (hno:∀e∈o'.after,Region.binds md e=true→e.on≠i) (hap:o.apart ops o'=true) (hr:R k i=false):jJ eff lo hi aI i k o o':=by
 have m2:=(zBd.1 h2).1;have h3:=zA4.1 h k (zAs.2 m2);have e:(i==k)=false:=by simp;exact fun e=>hne e.symm
 have e2:gU md o' i=false:=by
  cases hb:gU md o' i with
  |false=>rfl
  | true =>
    unfold gU at hb;obtain⟨x,hx,hy⟩:=zDk.1 hb;simp only[zA0,beq_iff_eq] at hy;exact absurd hy.2 (hno x hx hy.1)
 simp only[e,zCx,h1,h2,e2,hap,zDu,hun,hr] at h3;unfold jJ;cases ho:eff o<;>cases ho':eff o'<;>simp_all
theorem vA {R:Nat→Nat→Bool} (hR:tn md ops R) {K:Env→Nat→Prop}:∀(l:List Oper) (k:Nat) (listed:Array Bool) (env:Env) (j:Nat),si R listed→(∀i,l[i]? = ops[k+i]?) →
 wG md ops eff R lo hi aI l.length k listed=true→Region.lexFrom md ops l.length k listed=true→YQ P n ops S eff lo hi aI K l k env j→pC P n md ops S eff lo hi aI K l.length listed env j
 |[],_,_,_,_,_,_,_,hB,h=>⟨by simpa[Region.lexFrom] using hB,h⟩
 | o :: l, k, listed, env, j, hS, hl, hE, hB, h => by
   simp only[zAd,wG,zA0] at hE;have h0:ops[k]? = some o:=by simpa using(hl 0).symm
   simp only[zAd,Region.lexFrom,zA0] at hB;obtain⟨⟨hr,hf⟩,hB'⟩:=hB;obtain⟨v,j',hy,V⟩:=h;have hr':k∈Region.ready md ops listed:=by simpa using hr
   exact zJ hR h0 l.length listed env j j' hS (fun k2 ok h1 h2 h3 h4=>let ap:=Region.free_spec h0 hf k2 ok h1 h2 h3 h4;⟨ap,zK hE.1 h2 h0 h1 h3 h4 ap⟩) hr' hy
    (vA hR l (k+1) _ _ j' (hS.put hR hr') (fun i=>by have:=hl (i+1);simpa[zC4,zD0 1 i] using this) hE.2 hB' V)
def reach (ops:Array Oper) (k i:Nat):Bool:=((Region.before ops).getD k 0).testBit i
def p9 (md:Region.Mode) (ops:Array Oper) (R:Nat→Nat→Bool) (i:Nat):Nat→Bool
 |0=>true
 |k+1=>(!R k i||(match ops[k]? with|some o=>o.after.any fun e=>Region.binds md e&&(e.on==i||R e.on i)|none=>true))&&p9 md ops R i k
theorem rh {R:Nat→Nat→Bool} {i:Nat}:∀{m:Nat},p9 md ops R i m=true→∀k o,k<m→ops[k]? = some o→R k i=true→∃e∈o.after,Region.binds md e=true∧(e.on=i∨R e.on i=true)
 |0,_,k,_,hk,_,_=>by omega
 | m + 1, h, k, o, hk, ho, hr => by
   unfold p9 at h;rw[zA0] at h;rcases nLg k m with h1|h1
   · exact rh h.2 k o h1 ho hr
   · obtain rfl:k=m:=oM;have h2:=h.1;simp only[hr,zDu,zCx,ho] at h2;obtain⟨e,he,h3⟩:=zDk.1 h2;simp only[zA0,zC5,beq_iff_eq] at h3;exact⟨e,he,h3⟩
def lZ (l:List Oper) (k i:Nat):Bool:=decide (i<l.length)&&reach l.toArray k i
theorem Gg {l:List Oper} (h:((List.range l.length).all fun i=>p9 md l.toArray (lZ l) i l.length)=true):tn md l.toArray (lZ l):=by
 intro k o ho i hr;have hk:=(zBd.1 ho).1;have hi:i<l.length:=by
  unfold lZ at hr;simp only[zA0,dEt] at hr;exact hr.1
 exact rh (zA4.1 h i (zAs.2 hi)) k o (by simpa using hk) ho hr
def HS (ops:List Oper) (eff:Oper→Bool) (i:Nat):Nat:=(ops.zipIdx.filter fun p=>eff p.1&&!lZ ops p.2 i).foldl (fun m p=>max m (fy ops eff p.2)) 0
def HT (ops:List Oper) (eff:Oper→Bool) (i:Nat):Nat:=(ops.zipIdx.filter fun p=>eff p.1&&!lZ ops i p.2).foldl (fun m p=>min m (fy ops eff p.2 - 1)) ((ops.filter eff).length)
theorem AWP.kR {P:Program} {n:Nat} (eff:Oper→Bool) {id:Nat} {l:List Oper} {K:Exit→Env→ae→Prop} {env:Env} {σ:ae} (S:Nat→ae) (h0:S 0=σ)
 (hm:P.follows .mixedOrders=true) (hB:Region.lexB .any l.toArray=true) (hd:eF n l.toArray=true)
 (hE:(((List.range l.length).all fun i=>p9 .any l.toArray (lZ l) i l.length)&&wG .any l.toArray eff (lZ l) (HT l eff) (HS l eff) (fy l eff) l.length 0 (Array.replicate l.length false))=true)
 (h:∀U:Env→Nat→Prop,(∀e j,K .normal e (S j)→U e j)→YQ P n l.toArray S eff (HT l eff) (HS l eff) (fy l eff) U l 0 env 0):AWP P n (.region id l.toArray true) K env σ:=by
 subst h0;intro G a w hr;simp only[Region.lexB,zA0] at hB;rw[zA0] at hE;refine wpIn_region_any hm ?_;have:=vA (md:=.any) (Gg hE.1) l 0 (Array.replicate l.toArray.size false) env 0 (fun m hm=>by
  rcases nLg m l.length with h'|h'
  · simp[h'] at hm
  · simp[zAj,h'] at hm) sMp (by simpa using hE.2) (by simpa using hB.2) (h (fun e j=>K .normal e (S j)) fun _ _ h=>h)
 refine dI _ hd _ _ env 0 (by simpa using this) G a _ ⟨hr.size,hr.defers,hr.bh,hr.st.drew⟩ _ ?_;intro G' aw j' a' w' hg hk hr';exact⟨aw,S j',G',hk,hg,hr'⟩
end
end Go.Ab
namespace Go.Ab
theorem jb (b:Nat):∀(vs:List Value) (o:Nat) (w:World) {c:Array Value} {T:TypeId} {fr:Nat×Nat},w.heap[b]? = some (.cells c T fr)→o+vs.length≤c.size →
 ∃c',(w.setCells b o vs).heap[b]? = some (.cells c' T fr)∧c'.size=c.size∧(∀j,c'.getD j undef=if o≤j∧j<o+vs.length then vs.getD (j - o) undef else c.getD j undef) ∧
  (∀k,k≠b→(w.setCells b o vs).heap[k]? = w.heap[k]?)∧(w.setCells b o vs).heap.size=w.heap.size∧cD w (w.setCells b o vs)
 |[],o,w,c,T,fr,hb,_=>⟨c,hb,rfl,fun j=>by rw[if_neg (by simp only[zAm];omega)],fun _ _=>rfl,rfl,cD.refl _⟩
 | v :: vs, o, w, c, T, fr, hb, hle => by
   have hlen:(v::vs).length=vs.length+1:=rfl;rw[hlen] at hle;have h1:(w.setCell ⟨b,o,none⟩ v).heap[b]? = some (.cells (c.setIfInBounds o v) T fr):=by
    simp[World.setCell,zBr,hb]
   have h2:∀k,k≠b→(w.setCell ⟨b,o,none⟩ v).heap[k]? = w.heap[k]? := fun k hk=>by
    simp[World.setCell,zBr,Ne.symm hk]
   obtain⟨c',g1,g2,g3,g4,g5,g6⟩:=jb b vs (o+1) (w.setCell ⟨b,o,none⟩ v) h1 (by rw[zCq];omega);refine⟨c',g1,by rw[g2,zCq],fun j=>?_,fun k hk=>(g4 k hk).trans (h2 k hk),by rw[World.setCells,g5];simp[World.setCell],cD.trans (by exact⟨⟨rfl,rfl⟩,rfl,nLr _⟩) g6⟩;rw[g3,hlen];by_cases hj:o+1≤j∧j<o+1+vs.length
   · rw[if_pos hj,if_pos ⟨oM,oM⟩];obtain⟨q,hq⟩:∃q,j - o=q+1:=⟨j - o - 1,oM⟩
     rw[hq,show j - (o+1)=q by omega];rfl
   · rw[if_neg hj];by_cases hj2:j=o
     · subst hj2;rw[if_pos ⟨nLr _,oM⟩,Nat.sub_self,zA2,Array.getElem?_setIfInBounds_self_of_lt oM];rfl
     · rw[if_neg oM,zA2,zCk (Ne.symm hj2),zA2]
section
variable {P:Program} {n:Nat} {ops:Array Oper} {o:Oper} {env:Env} {σ:ae} {T:Tab} {k:Env→ae→Prop}
theorem EStep.lz (hT:T.Ok P) {t m d l sz:Nat} {parts:Array (Nat×Operand)} {es:List (List AV)} (ho:o.op=.buildSlice t m parts) (hg:o.guard=none) (hd:o.dst=some d) (hdn:decide (d<n)=true) (h:pH T env t m parts.toList=some (sz,es)) (hn:eW env (parts.toList.map (·.2)))
 (hσ:σ[l]? = some (.arr sz 0 [])) (hk:k (env.put d (.sla l sz 0 m 1)) (σ.set l (.arr sz 1 es))):EStep P n ops o k env σ:=by
 refine EStep.plain hg fun G a w hr=>?_
 obtain⟨vr,e,k1,k2,k3,k4,k5⟩:=vh (w:=w) hT h ho hn (G:=G) (A:=a) (hI hr.st fun x _=>hr.bh x);unfold OWP;rw[k1];obtain⟨ob,cap,hB,_,_⟩:=cR hr.st hσ;have hm:=eV hr.st.ay;have hls:l<G.B.length:=by
  rcases nLg l G.B.length with h|h
  · exact h
  · simp[zA3 h] at hB
 have hgl:GB.Le (.own ob cap 0) (.own (some w.heap.size) m 1):=.inr ⟨_,_,_,rfl,oM⟩;have hal:=hr.st.alloc (o:=.cells vr e) (g:=.own (some w.heap.size) m 0) (ao:=.arr sz 0 es) rfl (.arr w.heap.size m sz 0 es vr e (0,0) (by rw[heap_alloc,if_pos rfl]) (by intro o _;simp) k2 oM k4 (fun i j x c h1 h2=>(k5 i j x c h1 h2).mono (Mem.Le.refl _) (BLe.append _ _)) (hm _ (nLr _)).1);have hs:aC { G with M:=G.M,B:=G.B.set l (.own (some w.heap.size) m 1) } (σ.set l (.arr sz 1 es)) (w.alloc (.cells vr e)):=by
  refine hr.st.kP (w':=w.alloc (.cells vr e)) hB (Mem.Le.refl _) hgl rfl sMp (fun k hk hk2=>by rw[heap_alloc,if_neg oM]) rfl (fun b hb o=>rfl) hal.ay (.inr (nLr _)) sMp cD.r ?_;exact .arr w.heap.size m sz 1 es vr e (0,0) (by rw[heap_alloc,if_pos rfl]) (by intro o _;simp) k2 oM k4 (fun i j x c h1 h2=>(k5 i j x c h1 h2).mono (Mem.Le.refl _) (BLe.set hB hgl)) (hm _ (nLr _)).1
 refine⟨_,_,_,hk,.upB (BLe.set hB hgl),?_⟩;rw[hd];have hr':bf n { G with B:=G.B.set l (.own (some w.heap.size) m 1) } env (σ.set l (.arr sz 1 es)) a (w.alloc (.cells vr e)):=hr.later (.upB (BLe.set hB hgl)) hs;refine hr'.put (of_decide_eq_true hdn) ?_;exact .sla l sz 0 m 1 _ m ⟨some w.heap.size,m,1,by rw[zAf hls],nLr _,fun _=>⟨oM,.inr ⟨oM,by simp⟩⟩⟩
end
end Go.Ab
namespace Go.Ab
section
variable {P:Program} {n:Nat} {ops:Array Oper} {o:Oper} {env:Env} {σ:ae} {T:Tab} {k:Env→ae→Prop}
theorem EStep.LB (hT:T.Ok P) {t e:TypeId} {x:Operand} {d l sz len:Nat} {es:List (List AV)} {s1 b1:Nat} {z:List Z} (ho:o.op=.call { callee:=.builtin .cap,args:=#[x],argTypes:=#[t] }) (hg:o.guard=none) (hd:o.dst=some d) (hdn:d<n)
 (hx:Rd env x (.sla l sz 0 len 0)) (cK:0<len) (hσ:σ[l]? = some (.arr sz 0 es)) (hl:LOk P t ⟨.slice e,s1,b1,z⟩) (hk:∀m:Nat,k (env.put d (.int ((es.length+m:Nat):Int))) σ):EStep P n ops o k env σ:=by
 refine EStep.plain hg fun G a w hr=>?_
 have h1:=hr.rd hx;generalize hA:a.eval x=X at h1;obtain⟨ob,cap,hB,hne,hob⟩:=cR hr.st hσ;cases h1 with
 | sla _ _ _ _ _ ad c hq =>
   obtain⟨ob',dK,n',g1,g2,g3⟩:=hq;rw[hB] at g1;simp at g1;obtain⟨rfl,rfl,rfl⟩:=g1;obtain⟨g4,g5⟩:=g3 rfl;rcases g5 with g5|⟨hcc,rfl⟩
   · omega
   have hcc:c=cap:=oM;subst hcc;have hle:es.length≤c:=by
    cases ob with
    | none =>
      have ho:=hr.st.bB l _ _ hB hσ;cases ho;exact nZl _
    | some b =>
      obtain⟨_,_,_,_,_,_,hn,_⟩:=hob b rfl;exact hn
   have bl:(execOp a.eval o).run P w=.ok (.value (.int .i64 c)) w:=by
    simp[execOp,ho,hA,resolve,invoke,builtin,Builtin.cap_,hl.slice w,goInt]
   unfold OWP;rw[bl];have e1:((es.length+(c - es.length):Nat):Int)=(c:Int):=oM;have h2:=hk (c - es.length);rw[e1] at h2;refine⟨_,_,G,h2,Gh.Le.refl G,?_⟩;rw[hd];exact hr.put hdn (.prim _)
theorem PRun.Gi (hT:T.Ok P) {t:TypeId} {x y:Operand} {l sz len:Nat} (hi:Nat) {es:List (List AV)} {kd:IntKind} {i:Int} (ho:o.op=.slice t x none (some y) none) (hx:rdv env x=some (.sla l sz 0 len 0)) (nx:rdn env x)
 (hy:rdv env y=some (.prim (.int kd i))) (hie:i=(hi:Int)) (ny:rdn env y) (hl:dO T t=some sz) (hσ:σ[l]? = some (.arr sz 0 es)) (cK:0<len) (h0:0<hi) (h:hi≤es.length):PRun P o env σ (.sla l sz 0 hi 0) :=
 .of fun G A w hs hv=>by
  subst hie;have hX:=rd (Rd.w hx nx) (by simp[ho,Op.operands]) hv;have e':=ag.aJ (rd (Rd.w hy ny) (by simp[ho,Op.operands]) hv);obtain⟨e,s1,b1,z,li,h1,h2,h3⟩:=dh hT hl;obtain⟨ob,cap,hB,hne,hob⟩:=cR hs hσ;obtain⟨b,rfl⟩:=hne (by intro e;rw[e] at h;simp at h;omega);obtain⟨c,T',fr,hb,hf,hlc,hn,hz,bU,hm⟩:=hob b rfl;obtain⟨q,rfl⟩:∃q,len=q+1:=⟨len - 1,oM⟩
  have hA:=At.val (l:=l) (sz:=sz) (len:=q+1) hB hX;have b1:=fun code=>de (P:=P) (k:=kd) (i:=(hi:Int)) (y:=cap) (code:=code) w ⟨oM,oM⟩
  refine⟨.slice (some ⟨b,0,none⟩) hi cap,?_,.sla _ sz _ _ 0 _ _ ⟨some b,cap,0,hB,nLr _,fun _=>⟨oM,.inr ⟨rfl,by simp⟩⟩⟩⟩;simp only[execOp,ho,hA,Instr.sliceAt,Instr.slice,zD1,zBa];simp[h1.slice w,h2.cg w,h3,Instr.sliceBounds,e',b1,cq]
theorem EStep.Ee (hT:T.Ok P) {x y:Operand} {t tx e:TypeId} {l l' i j n1 n2 v1 v2:Nat} (m:Nat) {es es2 es':List (List AV)} {s1 b1:Nat} {z:List Z} {le:LI} (ho:o.op=.call { callee:=.builtin .copy,args:=#[x,y],argTypes:=#[t,tx] })
 (hg:o.guard=none) (hdn:eu n o=true) (hx:Rd env x (.sla l 1 i n1 v1)) (hσ:σ[l]? = some (.arr 1 v1 es)) (hy:Rd env y (.sla l' 1 j n2 v2)) (Gj:σ[l']? = some (.arr 1 v2 es2)) (jh:∀x∈(es2.drop j).take m,x.all eH=true)
 (hl:LOk P t ⟨.slice e,s1,b1,z⟩) (he:LOk P e le) (hsz:le.size=1) (hm:m=Nat.min n2 n1) (hm0:0<m) (hi:i+m≤es.length) (hj:j+m≤es2.length) (hes:es'=es.take i++((es2.drop j).take m++es.drop (i+m)))
 (hk:k (env.br o.dst (.int (m:Int))) (σ.set l (.arr 1 v1 es'))):EStep P n ops o k env σ:=by
 refine EStep.plain hg fun G a w hr=>?_
 have h1:=hr.rd hx;have h2:=hr.rd hy;generalize hA:a.eval x=X at h1;generalize hY:a.eval y=Y at h2;obtain⟨ti,hi1,hi2,hi3,hi4⟩:=he.info;have eJ:=hl.dB;obtain⟨ob,cap,hB,hne,hob⟩:=cR hr.st hσ;obtain⟨b,rfl⟩:=hne (by intro e;rw[e] at hi;simp at hi;omega);obtain⟨c,T',fr,hb,hf,hlc,hn,hz,bU,hmm⟩:=hob b rfl;obtain⟨ob2,cap2,hB2,ov,hob2⟩:=cR hr.st Gj;obtain⟨b2,rfl⟩:=ov (by intro e;rw[e] at hj;simp at hj;omega);obtain⟨c2,T2,fr2,hb2,hf2,hlc2,hn2,hz2,HU,hmm2⟩:=hob2 b2 rfl;rw[zCb] at hlc hlc2;have hX:∃cx,X=.slice (some ⟨b,i,none⟩) n1 cx:=by
  cases h1 with
  | sla _ _ _ _ _ ad cx hq =>
    obtain⟨ob',dK,n',g1,g2,g3⟩:=hq;rw[hB] at g1;simp at g1;obtain⟨rfl,rfl,rfl⟩:=g1;obtain⟨g4,g5⟩:=g3 rfl;rcases g5 with g5|⟨_,rfl⟩
    · rw[g5] at hm;simp[Nat.min_def] at hm;omega
    · exact⟨cx,by simp⟩
 have hYv:∃cy,Y=.slice (some ⟨b2,j,none⟩) n2 cy:=by
  cases h2 with
  | sla _ _ _ _ _ ad cx hq =>
    obtain⟨ob',dK,n',g1,g2,g3⟩:=hq;rw[hB2] at g1;simp at g1;obtain⟨rfl,rfl,rfl⟩:=g1;obtain⟨g4,g5⟩:=g3 rfl;rcases g5 with g5|⟨_,rfl⟩
    · rw[g5] at hm;simp[Nat.min_def] at hm;omega
    · exact⟨cx,by simp⟩
 obtain⟨cx,rfl⟩:=hX;obtain⟨cy,rfl⟩:=hYv
 -- the cells that are read
 have dX:∀q,q<m→∃e0 u,es2[j+q]? = some e0∧e0[0]? = some u∧ag G.M G.B u (c2.getD (j+q) undef)∧eH u=true:=fun q hq=>by
  have hlt:j+q<es2.length:=oM;have hel:=hz2 _ (lGm hlt);have cr:0<(es2[j+q]).length:=oM;refine⟨es2[j+q],(es2[j+q])[0],zA1 hlt,zA1 cr,?_,zA4.1 (jh _ (zAu.2 ⟨q,by rw[zAn,zB0];omega,by rw[List.getElem_take,List.getElem_drop]⟩)) _ (lGm cr)⟩;have:=HU (j+q) 0 _ _ (zA1 hlt) (zA1 cr);rwa [zCb,zBq] at this
 obtain⟨cs,hcs⟩:∃cs:List Value,cs=(List.range m).map fun q=>c2.getD (j+q) undef:=⟨_,rfl⟩
 have hcl:cs.length=m:=by rw[hcs];simp
 have hcg:∀q,q<m→cs.getD q undef=c2.getD (j+q) undef:=fun q hq=>by rw[hcs];simp[List.getD,hq]
 have bl:=run_copy_cells (P:=P) w t tx o.type e b i n1 cx ⟨b2,j,none⟩ n2 cy cs eJ (by rw[hi1];simp[hi2,hsz]) (by rw[hcl];exact hm) (fun q v hq=>by
  have hq2:=(zAb.1 hq).1;rw[hcl] at hq2;have hv:cs.getD q undef=v:=by simp[List.getD,hq]
  rw[hcg q hq2] at hv;have h3:j+q<c2.size:=oM;simp[World.cell?,cq,hb2,h3] at hv ⊢;exact hv) (fun q hq=>by
  rw[hcl] at hq;have h3:i+q<c.size:=oM;simp[World.cell?,hb,h3]) (fun q hq=>by
  rw[hcl] at hq;have:=hf (i+q) oM;simp only[World.frozen?,hb];by_cases h5:fr.1≤i+q
  · have h6:¬i+q<fr.2:=fun h6=>this ⟨h5,h6⟩
    simp[h6]
  · simp[h5]) (fun u hu=>by
  rw[hcs,lMm] at hu;obtain⟨q,hq,rfl⟩:=hu;obtain⟨e0,u,_,_,g3,g4⟩:=dX q (zAs.1 hq);exact js g4 g3)
 have dY:(execOp a.eval o).run P w=.ok (.value (goInt cs.length)) (w.setCells b i cs):=by
  simp[execOp,ho,resolve,invoke,builtin,hA,hY,bl]
 unfold OWP;rw[dY];obtain⟨c',g1,g2,g3,g4,g5,g6⟩:=jb b cs i w hb (by rw[hcl];omega);have n9:G.M.map b=none:=cQ hr.st.ay hb (by intros;simp);have hel:es'.length=es.length:=by
  rw[hes];simp only[lLa,zAn,zB0];omega
 have oK:∀p,es'[p]? = if p<i then es[p]? else if p<i+m then es2[p - i+j]? else es[p]? := fun p=>by
  rw[hes];by_cases h0:p<i
  · rw[if_pos h0,zA8 (by rw[zAn];omega),zAw,if_pos h0]
  · rw[if_neg h0,zA7 (by rw[zAn];omega),zAn,zDr oM];by_cases h1:p<i+m
    · rw[if_pos h1,zA8 (by rw[zAn,zB0];omega),zAw,if_pos oM,zB6];congr 1;omega
    · rw[if_neg h1,zA7 (by rw[zAn,zB0];omega),zAn,zB0,zB6];congr 1;omega
 have hs2:aC G (σ.set l (.arr 1 v1 es')) (w.setCells b i cs):=by
  refine hr.st.upd hB rfl g5 g4 (.arr b cap 1 v1 _ c' T' fr g1 (by rw[g2];exact hf) (by rw[g2,zCb];exact hlc) oM (fun e he=>?_) (fun p q e1 av he hj'=>?_) hmm) ⟨hmm,n9⟩ g6
  · rw[hes] at he;rcases zAx.1 he with h|h
    · exact hz e (zC0 h)
    · rcases zAx.1 h with h|h
      · exact hz2 e (zC9 (zC0 h))
      · exact hz e (zC9 h)
  · rw[oK] at he;rw[zCb,g3,hcl];by_cases h0:p<i
    · rw[if_pos h0] at he;have hq:q=0:=by
       have:=(zAb.1 hj').1;rw[hz _ (zAc he)] at this;omega
      subst hq;rw[if_neg oM];have:=bU p 0 e1 av he hj';rwa [zCb] at this
    · rw[if_neg h0] at he;by_cases h1:p<i+m
      · rw[if_pos h1] at he;have hq:q=0:=by
         have:=(zAb.1 hj').1;rw[hz2 _ (zAc he)] at this;omega
        subst hq;rw[if_pos ⟨oM,oM⟩,hcg _ oM];have:=HU (p - i+j) 0 e1 av he hj';rw[zCb,zBq] at this;rw[show j+(p+0 - i)=p - i+j by omega];exact this
      · rw[if_neg h1] at he;have hq:q=0:=by
         have:=(zAb.1 hj').1;rw[hz _ (zAc he)] at this;omega
        subst hq;rw[if_neg oM];have:=bU p 0 e1 av he hj';rwa [zCb] at this
 have hr':bf n G env (σ.set l (.arr 1 v1 es')) a (w.setCells b i cs):=⟨hr.size,hr.defers,hr.bh,hs2⟩;rw[hcl];exact⟨_,_,G,hk,Gh.Le.refl G,hr'.br (cu hdn) (.prim _)⟩
end
end Go.Ab
