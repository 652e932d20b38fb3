/- Parts of the proof. No statement is proved here. -/
import Derived.Test.YtmjdoencpjpegaaGreatDoorP43
import Derived.Test.YtmjdoencpjpegaaGreatDoorP44
set_option linter.unusedVariables false
set_option linter.unusedSimpArgs false
set_option maxHeartbeats 16000000
set_option maxRecDepth 20000
namespace Go.Proofs.YtmjdoencpjpegaaGreatDoor.Top
open Go.Ab Go.Jo Go.Sy Go.Pl Go.ChangeShapes Go.WideShapes Al Mk Cy De Pl
section
variable {H:Type} {enc:TypeId×Value→H} {W:World} {base b0 fuel:Nat} {held:Bool} {spare:Nat→Bool}
theorem lkRp:LOk Tryz.prog 215 ⟨.struct [(3,0,1),(3,1,1),(3,2,1)],3,24,[.i .i64,.i .i64,.i .i64]⟩:=.of (ab.get rfl)
theorem lkEn:LOk Tryz.prog 232 ⟨.struct [(3,0,1),(3,1,1),(3,2,1)],3,24,[.i .i64,.i .i64,.i .i64]⟩:=.of (ab.get rfl)
theorem lkCt:LOk Tryz.prog 158 ⟨.struct [(3,0,1),(3,1,1),(3,2,1)],3,24,[.i .i64,.i .i64,.i .i64]⟩:=.of (ab.get rfl)
theorem lkJp:LOk Tryz.prog 39 ⟨.struct [(3,0,1),(3,1,1),(3,2,1)],3,24,[.i .i64,.i .i64,.i .i64]⟩:=.of (ab.get rfl)
theorem cnRp:Tryz.prog.cellsOf 215=3:=by kernel_rfl
theorem cnEn:Tryz.prog.cellsOf 232=3:=by kernel_rfl
theorem cnCt:Tryz.prog.cellsOf 158=3:=by kernel_rfl
theorem cnJp:Tryz.prog.cellsOf 39=3:=by kernel_rfl
theorem ND:LOk Tryz.prog 36 ⟨.slice 215,1,24,[.slice]⟩:=.of (ab.get rfl)
theorem NF:LOk Tryz.prog 37 ⟨.slice 232,1,24,[.slice]⟩:=.of (ab.get rfl)
theorem NG:LOk Tryz.prog 40 ⟨.slice 158,1,24,[.slice]⟩:=.of (ab.get rfl)
theorem NH:Tryz.prog.cellsOf 36=1:=by kernel_rfl
theorem NI:Tryz.prog.cellsOf 37=1:=by kernel_rfl
theorem NJ:Tryz.prog.cellsOf 40=1:=by kernel_rfl
theorem qu {t:TypeId} (lk:LOk Tryz.prog t ⟨.struct [(3,0,1),(3,1,1),(3,2,1)],3,24,[.i .i64,.i .i64,.i .i64]⟩) (cn:Tryz.prog.cellsOf t=3) {cs:List Value} {x:DataW H×List MemPlace} (h:DataW.trod enc Tryz.prog W base spare held fuel t cs=some x):∃a b c:Int,cs=[vI a,vI b,vI c]:=by
 obtain⟨hlen,n,hf⟩:=cR lk h;rw[cn] at hlen
 match cs,hlen with
 | [u0, u1, u2], _ =>
   obtain⟨y0,h0⟩:=hf 0 3 0 1 rfl;obtain⟨y1,h1⟩:=hf 1 3 1 1 rfl;obtain⟨y2,h2⟩:=hf 2 3 2 1 rfl;rw[cn3] at h0 h1 h2;obtain⟨n0,e0,_⟩:=bx lk3 h0;obtain⟨n1,e1,_⟩:=bx lk3 h1;obtain⟨n2,e2,_⟩:=bx lk3 h2;simp at e0 e1 e2;subst e0 e1 e2;exact⟨n0,n1,n2,rfl⟩
theorem r7 {a b c:Int}:∀(j:Nat) v,[AV.int a,AV.int b,AV.int c][j]? = some v→af (bR W) [] v ([vI a,vI b,vI c].getD j undef):=fun j v hj=>by
 match j,hj with
 |0,hj=>simp at hj;subst hj;exact .prim _
 |1,hj=>simp at hj;subst hj;exact .prim _
 |2,hj=>simp at hj;subst hj;exact .prim _
 |j+3,hj=>simp at hj
theorem lkFo:LOk Tryz.prog 42 ⟨.struct [(3,0,1),(36,1,1),(37,2,1),(39,3,3),(40,6,1)],7,104,[.i .i64,.slice,.slice,.i .i64,.i .i64,.i .i64,.slice]⟩:=.of (ab.get rfl)
theorem cnFo:Tryz.prog.cellsOf 42=7:=by kernel_rfl
theorem Lc {cs:List Value} {x:DataW H×List MemPlace} (h:DataW.trod enc Tryz.prog W base spare held fuel 42 cs=some x) :
 ∃f:aR,Ag f∧cs.length=7∧∀(j:Nat) c,(bl f)[j]? = some c→af (bR W) [] c (cs.getD j undef):=by
 obtain⟨hlen,n,hf⟩:=cR lkFo h;rw[cnFo] at hlen
 match cs,hlen with
 | [u0, u1, u2, u3, u4, u5, u6], _ =>
   obtain⟨y0,h0⟩:=hf 0 3 0 1 rfl;obtain⟨y1,h1⟩:=hf 1 36 1 1 rfl;obtain⟨y2,h2⟩:=hf 2 37 2 1 rfl;obtain⟨y3,h3⟩:=hf 3 39 3 3 rfl;obtain⟨y4,h4⟩:=hf 4 40 6 1 rfl;rw[cn3] at h0;rw[NH] at h1;rw[NI] at h2;rw[cnJp] at h3;rw[NJ] at h4;obtain⟨n0,e0,_⟩:=bx lk3 h0;simp at e0;subst e0;obtain⟨ja,jt,jf,e3⟩:=qu lkJp cnJp h3;simp at e3;obtain⟨rfl,rfl,rfl⟩:=e3;obtain⟨rs,g1,g2,_⟩:=eC (w:=W) (enc:=enc) (base:=base) (held:=held) (spare:=spare) bk (fun _=>True) (v:=u1) ND.dC cnRp dCd (fun n cs y h=>by
    obtain⟨a,b,c,rfl⟩:=qu lkRp cnRp h;exact⟨⟨a,b,c⟩,rfl,r7,trivial⟩) h1
   obtain⟨es,g3,g4,_⟩:=eC (w:=W) (enc:=enc) (base:=base) (held:=held) (spare:=spare) cD (fun _=>True) (v:=u2) NF.dC cnEn dCd (fun n cs y h=>by
    obtain⟨a,b,c,rfl⟩:=qu lkEn cnEn h;exact⟨⟨a,b,c⟩,rfl,r7,trivial⟩) h2
   obtain⟨ks,g5,g6,_⟩:=eC (w:=W) (enc:=enc) (base:=base) (held:=held) (spare:=spare) aW (fun _=>True) (v:=u6) NG.dC cnCt dCd (fun n cs y h=>by
    obtain⟨a,b,c,rfl⟩:=qu lkCt cnCt h;exact⟨⟨a,b,c⟩,rfl,r7,trivial⟩) h4
   refine⟨⟨n0,rs,es,⟨ja,jt,jf⟩,ks⟩,⟨g2,g4,g6⟩,rfl,fun j c hj=>?_⟩
   match j,hj with
   |0,hj=>simp[bl] at hj;subst hj;exact .prim _
   |1,hj=>simp[bl] at hj;subst hj;exact g1
   |2,hj=>simp[bl] at hj;subst hj;exact g3
   |3,hj=>simp[bl] at hj;subst hj;exact .prim _
   |4,hj=>simp[bl] at hj;subst hj;exact .prim _
   |5,hj=>simp[bl] at hj;subst hj;exact .prim _
   |6,hj=>simp[bl] at hj;subst hj;exact g5
   |j+7,hj=>simp[bl] at hj
instance:Inhabited Tm:=⟨⟨0,⟨0,0⟩⟩⟩
theorem lkTm:LOk Tryz.prog 340 ⟨.struct [(3,0,1),(104,1,2)],3,24,[.i .i64,.i .i64,.i .i64]⟩:=.of (ab.get rfl)
theorem cnTm:Tryz.prog.cellsOf 340=3:=by kernel_rfl
theorem NK:LOk Tryz.prog 113 ⟨.slice 340,1,24,[.slice]⟩:=.of (ab.get rfl)
theorem NM:Tryz.prog.cellsOf 113=1:=by kernel_rfl
theorem IY {cs:List Value} {x:DataW H×List MemPlace} (h:DataW.trod enc Tryz.prog W base spare held fuel 340 cs=some x):∃t:Tm,(lO t).length=3∧∀(j:Nat) c,(lO t)[j]? = some c→af (bR W) [] c (cs.getD j undef):=by
 obtain⟨hlen,n,hf⟩:=cR lkTm h;rw[cnTm] at hlen
 match cs,hlen with
 | [u0, u1, u2], _ =>
   obtain⟨y0,h0⟩:=hf 0 3 0 1 rfl;obtain⟨y1,h1⟩:=hf 1 104 1 2 rfl;rw[cn3] at h0;rw[uV] at h1;obtain⟨n0,e0,_⟩:=bx lk3 h0;obtain⟨q,e1⟩:=x5 h1;simp at e0;have q1:[u1,u2]=[vI q.n,vI q.d]:=by simpa[pZ] using e1
   simp at q1;obtain⟨q1,q2⟩:=q1;subst e0 q1 q2;refine⟨⟨n0,q⟩,rfl,fun j c hj=>?_⟩
   match j,hj with
   |0,hj=>simp[lO] at hj;subst hj;exact .prim _
   |1,hj=>simp[lO] at hj;subst hj;exact .prim _
   |2,hj=>simp[lO] at hj;subst hj;exact .prim _
   |j+3,hj=>simp[lO] at hj
theorem lkWk:LOk Tryz.prog 115 ⟨.struct [(55,0,4),(42,4,7),(113,11,1)],12,208,[.i .i64,.slice,.slice,.slice,.i .i64,.slice,.slice,.i .i64,.i .i64,.i .i64,.slice,.slice]⟩:=.of (ab.get rfl)
theorem cnWk:Tryz.prog.cellsOf 115=12:=by kernel_rfl
theorem Eg:LOk Tryz.prog 22 ⟨.slice 115,1,24,[.slice]⟩:=.of (ab.get rfl)
theorem NN:Tryz.prog.cellsOf 55=4:=by kernel_rfl
theorem Ld {cs:List Value} {x:DataW H×List MemPlace} (h:DataW.trod enc Tryz.prog W base spare held fuel 115 cs=some x):∃w:ba,(bb w).length=12∧(∀(j:Nat) c,(bb w)[j]? = some c→af (bR W) [] c (cs.getD j undef))∧o6 w:=by
 obtain⟨hlen,n,hf⟩:=cR lkWk h;rw[cnWk] at hlen
 match cs,hlen with
 | [u0, u1, u2, u3, u4, u5, u6, u7, u8, u9, u10, u11], _ =>
   obtain⟨y0,h0⟩:=hf 0 55 0 4 rfl;obtain⟨y1,h1⟩:=hf 1 42 4 7 rfl;obtain⟨y2,h2⟩:=hf 2 113 11 1 rfl;rw[NN] at h0;rw[cnFo] at h1;rw[NM] at h2;obtain⟨s,_,g1,gz⟩:=IX h0;obtain⟨f,fz,_,g2⟩:=Lc h1;obtain⟨ts,g3,_,_⟩:=eC (w:=W) (enc:=enc) (base:=base) (held:=held) (spare:=spare) lO (fun _=>True) (v:=u11) NK.dC cnTm dCd (fun n cs y h=>by
    obtain⟨t,t1,t2⟩:=IY h;exact⟨t,t1,t2,trivial⟩) h2
   refine⟨⟨s,f,ts⟩,rfl,fun j c hj=>?_,⟨gz,fz⟩⟩
   match j,hj with
   |0,hj=>simp[bb] at hj;subst hj;simpa using g1 0 _ rfl
   |1,hj=>simp[bb] at hj;subst hj;simpa using g1 1 _ rfl
   |2,hj=>simp[bb] at hj;subst hj;simpa using g1 2 _ rfl
   |3,hj=>simp[bb] at hj;subst hj;simpa using g1 3 _ rfl
   |4,hj=>simp[bb] at hj;subst hj;simpa using g2 0 _ rfl
   |5,hj=>simp[bb] at hj;subst hj;simpa using g2 1 _ rfl
   |6,hj=>simp[bb] at hj;subst hj;simpa using g2 2 _ rfl
   |7,hj=>simp[bb] at hj;subst hj;simpa using g2 3 _ rfl
   |8,hj=>simp[bb] at hj;subst hj;simpa using g2 4 _ rfl
   |9,hj=>simp[bb] at hj;subst hj;simpa using g2 5 _ rfl
   |10,hj=>simp[bb] at hj;subst hj;simpa using g2 6 _ rfl
   |11,hj=>simp[bb] at hj;subst hj;exact g3
   |j+12,hj=>simp[bb] at hj
theorem IZ {r:Reach} {v:Value} {d:DataW H} {p:List MemPlace} {ts:List TypeId} {ds:List (DataW H)} (jU:Value.okWide Tryz.prog W r b0 22 v) (h:DataW.Trod enc Tryz.prog W base spare held 22 v d p) (hs:(DataW.weightsEach Tryz.prog ts ds).all (·≤reachBytes)=true) {j:Nat} (ht:ts[j]? = some 22) (hd:ds[j]? = some d) :
 ∃l:List ba,af (bR W) [] (.sl 12 (l.map bb) .no) v∧l.length≤1000000000000∧∀w∈l,o6 w:=by
 have h9:=h;obtain⟨fuel,hf⟩:=h;rw[uU Eg.dC jU] at hf;obtain⟨l,h1,_,h3⟩:=eC (w:=W) (enc:=enc) (base:=base) (held:=held) (spare:=spare) bb o6 Eg.dC cnWk dCd (fun n cs y h=>Ld h) hf;have:=Bd (b:=208) Eg.dC (by kernel_rfl) h9 h1 hs ht hd;have hr:reachBytes=140737488351232:=dCd;rw[lLm,hr] at this;exact⟨l,h1,oM,h3⟩
theorem lkDc:LOk Tryz.prog 76 ⟨.struct [(3,0,1),(3,1,1),(3,2,1),(3,3,1),(3,4,1),(3,5,1)],6,48,[.i .i64,.i .i64,.i .i64,.i .i64,.i .i64,.i .i64]⟩:=.of (ab.get rfl)
theorem cnDc:Tryz.prog.cellsOf 76=6:=by kernel_rfl
theorem JQ:LOk Tryz.prog 23 ⟨.slice 76,1,24,[.slice]⟩:=.of (ab.get rfl)
theorem Ms {cs:List Value} {x:DataW H×List MemPlace} (h:DataW.trod enc Tryz.prog W base spare held fuel 76 cs=some x):∃q:Dec,(bu q).length=6∧∀(j:Nat) c,(bu q)[j]? = some c→af (bR W) [] c (cs.getD j undef):=by
 obtain⟨hlen,n,hf⟩:=cR lkDc h;rw[cnDc] at hlen
 match cs,hlen with
 | [u0, u1, u2, u3, u4, u5], _ =>
   obtain⟨y0,h0⟩:=hf 0 3 0 1 rfl;obtain⟨y1,h1⟩:=hf 1 3 1 1 rfl;obtain⟨y2,h2⟩:=hf 2 3 2 1 rfl;obtain⟨y3,h3⟩:=hf 3 3 3 1 rfl;obtain⟨y4,h4⟩:=hf 4 3 4 1 rfl;obtain⟨y5,h5⟩:=hf 5 3 5 1 rfl;rw[cn3] at h0 h1 h2 h3 h4 h5;obtain⟨n0,e0,_⟩:=bx lk3 h0;obtain⟨n1,e1,_⟩:=bx lk3 h1;obtain⟨n2,e2,_⟩:=bx lk3 h2;obtain⟨n3,e3,_⟩:=bx lk3 h3;obtain⟨n4,e4,_⟩:=bx lk3 h4;obtain⟨n5,e5,_⟩:=bx lk3 h5;simp at e0 e1 e2 e3 e4 e5;subst e0 e1 e2 e3 e4 e5;refine⟨⟨n0,n1,n2,n3,n4,n5⟩,rfl,fun j c hj=>?_⟩
   match j,hj with
   |0,hj|1,hj|2,hj|3,hj|4,hj|5,hj=>simp only[bu,zBv,zCv,Option.some.injEq] at hj;subst hj;exact .prim _
   |j+6,hj=>simp[bu] at hj
theorem Lf {r:Reach} {v:Value} {d:DataW H} {p:List MemPlace} (jU:Value.okWide Tryz.prog W r b0 23 v) (h:DataW.Trod enc Tryz.prog W base spare held 23 v d p) :
 ∃l:List Dec,af (bR W) [] (.sl 6 (l.map bu) .no) v∧l.length≤9223372036854775807:=by
 obtain⟨fuel,hf⟩:=h;rw[uU JQ.dC jU] at hf;obtain⟨l,h1,h2,_⟩:=eC (w:=W) (enc:=enc) (base:=base) (held:=held) (spare:=spare) bu (fun _=>True) JQ.dC cnDc dCd (fun n cs y h=>by
  obtain⟨t,t1,t2⟩:=Ms h;exact⟨t,t1,t2,trivial⟩) hf
 exact⟨l,h1,h2⟩
theorem lkEv:LOk Tryz.prog 78 ⟨.struct [(3,0,1),(3,1,1),(3,2,1),(3,3,1),(68,4,10)],14,120,[.i .i64,.i .i64,.i .i64,.i .i64,.i .i64,.i .i64,.i .i64,.i .i64,.i .i64,.i .i64,.i .i64,.i .i64,.i .i64,.str]⟩:=.of (ab.get rfl)
theorem cnEv:Tryz.prog.cellsOf 78=14:=by kernel_rfl
theorem NO:LOk Tryz.prog 26 ⟨.slice 78,1,24,[.slice]⟩:=.of (ab.get rfl)
theorem NP:Tryz.prog.cellsOf 26=1:=by kernel_rfl
theorem I0 {cs:List Value} {x:DataW H×List MemPlace} (h:DataW.trod enc Tryz.prog W base spare held fuel 78 cs=some x):∃e:Ev,(fN e).length=14∧(∀(j:Nat) c,(fN e)[j]? = some c→af (bR W) [] c (cs.getD j undef))∧e.mark.text.length≤9223372036854775807:=by
 obtain⟨hlen,n,hf⟩:=cR lkEv h;rw[cnEv] at hlen
 match cs,hlen with
 | [u0, u1, u2, u3, u4, u5, u6, u7, u8, u9, u10, u11, u12, u13], _ =>
   obtain⟨y0,h0⟩:=hf 0 3 0 1 rfl;obtain⟨y1,h1⟩:=hf 1 3 1 1 rfl;obtain⟨y2,h2⟩:=hf 2 3 2 1 rfl;obtain⟨y3,h3⟩:=hf 3 3 3 1 rfl;obtain⟨y4,h4⟩:=hf 4 68 4 10 rfl;rw[cn3] at h0 h1 h2 h3;rw[cnM] at h4;obtain⟨n0,e0,_⟩:=bx lk3 h0;obtain⟨n1,e1,_⟩:=bx lk3 h1;obtain⟨n2,e2,_⟩:=bx lk3 h2;obtain⟨n3,e3,_⟩:=bx lk3 h3;obtain⟨m,e4,hm⟩:=rdM h4;simp[vM] at e0 e1 e2 e3 e4;obtain⟨q0,q1,q2,q3,q4,q5,q6,q7,q8,q9⟩:=e4;subst e0 e1 e2 e3 q0 q1 q2 q3 q4 q5 q6 q7 q8 q9;refine⟨⟨n0,n1,n2,n3,m⟩,rfl,fun j c hj=>?_,hm⟩
   match j,hj with
   |0,hj|1,hj|2,hj|3,hj|4,hj|5,hj|6,hj|7,hj|8,hj|9,hj|10,hj|11,hj|12,hj|13,hj=>simp only[fN,zBv,zCv,Option.some.injEq] at hj;subst hj;exact .prim _
   |j+14,hj=>simp[fN] at hj
theorem lkSt:LOk Tryz.prog 28 ⟨.struct [(3,0,1),(25,1,3),(3,4,1),(3,5,1),(26,6,1)],7,72,[.i .i64,.i .i64,.i .i64,.i .i64,.i .i64,.i .i64,.slice]⟩:=.of (ab.get rfl)
theorem cnSt:Tryz.prog.cellsOf 28=7:=by kernel_rfl
theorem ctSt:Tryz.prog.cellTypes Tryz.prog.depth 28=some [3,3,3,3,3,3,26]:=by kernel_rfl
theorem I1 {r:Reach} {v:Value} {d:DataW H} {p:List MemPlace} (jU:Value.okWide Tryz.prog W r b0 28 v) (h:DataW.Trod enc Tryz.prog W base spare held 28 v d p):∃s:Std,af (bR W) [] (.agg (fH s)) v∧s.evs.length≤9223372036854775807∧Txt s.evs:=by
 obtain⟨cs,rfl,hsz,I8⟩:=Eu lkSt ctSt jU;obtain⟨fuel,hf⟩:=h;obtain⟨l,rfl⟩:∃l,cs=List.toArray l:=⟨cs.toList,by simp⟩
 simp only[Value.cells] at hf;obtain⟨hlen,n,hf⟩:=cR lkSt hf;rw[cnSt] at hlen
 match l,hlen with
 | [u0, u1, u2, u3, u4, u5, u6], _ =>
   obtain⟨y0,h0⟩:=hf 0 3 0 1 rfl;obtain⟨y1,h1⟩:=hf 1 25 1 3 rfl;obtain⟨y2,h2⟩:=hf 2 3 4 1 rfl;obtain⟨y3,h3⟩:=hf 3 3 5 1 rfl;obtain⟨y4,h4⟩:=hf 4 26 6 1 rfl;rw[cn3] at h0 h2 h3;rw[cnR] at h1;rw[NP] at h4;obtain⟨n0,e0,_⟩:=bx lk3 h0;obtain⟨q,e1⟩:=rdR h1;obtain⟨n2,e2,_⟩:=bx lk3 h2;obtain⟨n3,e3,_⟩:=bx lk3 h3;simp[vR] at e0 e1 e2 e3;obtain⟨q0,q1,q2⟩:=e1;subst e0 q0 q1 q2 e2 e3;obtain⟨es,g1,g2,g3⟩:=eC (w:=W) (enc:=enc) (base:=base) (held:=held) (spare:=spare) fN (fun e=>e.mark.text.length≤9223372036854775807) (v:=u6) NO.dC cnEv dCd (fun n cs y h=>I0 h) h4;refine⟨⟨n0,q,n2,n3,es⟩,.agg _ _ rfl fun i c hi=>?_,g2,g3⟩
   match i,hi with
   |0,hi|1,hi|2,hi|3,hi|4,hi|5,hi=>simp only[fH,zBv,zCv,Option.some.injEq] at hi;subst hi;exact .prim _
   |6,hi=>simp[fH] at hi;subst hi;exact g1
   |i+7,hi=>simp[fH] at hi
end
end Go.Proofs.YtmjdoencpjpegaaGreatDoor.Top
