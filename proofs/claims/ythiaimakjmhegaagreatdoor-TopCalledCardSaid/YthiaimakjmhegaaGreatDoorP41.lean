/- Parts of the proof. No statement is proved here. -/
import Derived.Test.YthiaimakjmhegaaGreatDoorP39
import Derived.Test.YthiaimakjmhegaaGreatDoorP40
set_option linter.unusedVariables false
set_option linter.unusedSimpArgs false
set_option maxHeartbeats 16000000
set_option maxRecDepth 20000
namespace Go.Proofs.YthiaimakjmhegaaGreatDoor.Top
open Go.Ab Go.Jo Go.Sy Go.Pl Al Cy De Pl
attribute [local irreducible] AWP AOps EStep AQ PStep PRun PCall TCall VCall
theorem qQ {n:Int} (h:0≤n∧n≤65535):IntKind.i64.wrap n=n:=by
 simp[IntKind.wrap,IntKind.bits,IntKind.signed];omega
structure zd (L:Lib):Prop where
 wl:L.ax.length≤1000000000000
 ws:∀w∈L.ax,kU w∧w.gK.length≤9223372036854775807
 el:L.eds.length≤9223372036854775807
 es:∀e∈L.eds,Ed.Wf e
 sl:L.dU.length≤9223372036854775807
 ll:L.eQ.length≤9223372036854775807
theorem Hu {L:Lib} {ds:List Dec} {l:List Std} (h:zd L) (hs:∀s∈l,s.evs.length≤9223372036854775807∧Txt s.evs) (hf:qO L ds l=true):fW L∧ds.length≤1000000000∧sH l∧l.length≤8:=by
 unfold qO at hf;simp only[zA0] at hf;obtain⟨⟨⟨⟨h1,h2⟩,_⟩,h4⟩,h5⟩:=hf;obtain⟨h6,h7,_⟩:=Gv h1;rw[lLm] at h7;unfold qo at h2;simp only[zA0,dEt,zA4,zB3,zAg] at h2;obtain⟨g4,g5,g6⟩:=h2;unfold tZ at h4;simp only[zA0,dEt] at h4;unfold qN at h5;simp only[zA0,dEt] at h5;obtain⟨⟨⟨⟨⟨k1,k2⟩,k3⟩,k4⟩,k5⟩,_⟩:=h5;have hst:∀s∈l,s.evs.length≤30:=fun s hm=>by
  obtain⟨j,hj,rfl⟩:=zAu.1 hm;have h9:=zA4.1 h4.1 j (zAs.2 oM);rw[bb hj] at h9;unfold tY at h9;rw[dEt] at h9;omega
 refine⟨⟨oM,fun w hm=>⟨?_,zR (h6 _ (zAq.2 ⟨w,hm,rfl⟩))⟩,fun w hm=>?_,oM,h.es,oM,oM⟩,oM,⟨oM,fun s hm=>⟨(hs s hm).2,by have:=hst s hm;omega⟩⟩,oM⟩
 · have g7:=(g4 w (by rw[zAh oM];exact hm)).1;unfold nh at g7;simp only[zBc,zA0,dEt] at g7;exact⟨oM,oM,oM⟩
 · obtain⟨j,hj,rfl⟩:=zAu.1 hm;have h9:=zA4.1 k5 j (zAs.2 hj);rw[bb hj] at h9;unfold pb at h9;simp only[zA0,dEt] at h9;omega
theorem C3 (L:Lib) (h:fW L) (ds:List Dec) (hd:ds.length≤1000000000) (l:List Std) (hs:sH l) (time:Int) (c:Pl.Call) (hcl:c.letter.size≤9223372036854775807) (h0:er L ds l time c=0) (k:Nat) (hk:k<l.length) :
 PCall Tryz.prog 7 [.agg (bq L),.sl 6 (ds.map bx) .no,.sl 7 (l.map aR) .no,.int time,.int (k:Nat),.agg (bw c)] (.b true):=by
 by_cases nk:(cI L.ax L.eds ds (l.getD k default) time c).2=0
 · exact Fk L h ds hd l hs time c hcl h0 k hk nk
 · exact Hq L h ds hd l hs time c hcl h0 k hk nk
theorem C4 (L:Lib) (h:zd L) (ds:List Dec) (hd:ds.length≤9223372036854775807) (l:List Std) (hl:l.length≤9223372036854775807) (hs:∀s∈l,s.evs.length≤9223372036854775807∧Txt s.evs) (time:Int) (ht:0≤time∧time≤65535) (which:Int) (hw:0≤which∧which≤255) (c:Pl.Call) (hcl:c.letter.size≤9223372036854775807) :
 PCall Tryz.prog 3 [.agg (bq L),.sl 6 (ds.map bx) .no,.sl 7 (l.map aR) .no,.prim (.int .u16 time),.prim (.int .u8 which),.agg (bw c)] (.b true):=by
 have c0:=wy;have c1:=C2 L h.wl h.ws h.el h.sl h.ll ds hd l hl fun s hm=>(hs s hm).1
 by_cases hfew:(!qO L ds l||decide ((l.length:Int)=0))=true
 · refine PCall.body Tryz.func3 rfl rfl Tryz.ntmps3 rfl rfl ?_
   repeat' (first|refine qP ?_ (h:=fun hg=>by first|exact aa|exact pc c0|exact pc c1|exact af)|apply sqW|refine rgK fun U V=>?_|(refine aN V ?_;clear V U)|refine aB ?_|refine cX ?_ ?_<;>intro hc<;>try simp only[dE] at hc|refine skW ?_|refine rtW ?_)
   · exact⟨.inr rfl,Ent.b rfl⟩
   all_goals exact absurd hfew (by rw[show(!qO L ds l||decide ((l.length:Int)=0))=false from hc];decide)
 have H6:(!qO L ds l||decide ((l.length:Int)=0))=false:=by simpa using hfew
 have hf3:=H6;rw[zAg,zBc,dEf] at hf3;obtain⟨hA,hE⟩:=hf3;obtain⟨g1,g2,g3,g4⟩:=Hu h hs hA;rw[hA] at c1;have c2:=lB L g1 ds g2 l g3 time c hcl;have hl0:(l.length:Int)≠0:=hE;clear hfew H6;by_cases h0:er L ds l time c=0
 · obtain⟨k,hk,hkm⟩:∃k:Nat,k<l.length∧which.tmod l.length=k:=by
    have h1:=Int.tmod_nonneg (l.length:Int) hw.1;have h2:=Int.tmod_lt_of_pos which (show(0:Int)<(l.length:Int) by omega);exact⟨(which.tmod l.length).toNat,oM,oM⟩
   have c3:=C3 L g1 ds g2 l g3 time c hcl h0 k hk;rw[h0] at c2;generalize jX L ds l time c=X at *;refine PCall.body Tryz.func3 rfl rfl Tryz.ntmps3 rfl rfl ?_
   repeat' (first|refine qP ?_ (h:=fun hg=>by first|exact PRun.qB ab (qQ ⟨oM,oM⟩) rfl rfl nd rfl rfl|exact aa|exact pc c0|exact pc c1|exact pc c2|exact af)|apply sqW|refine rgK fun U V=>?_|(refine aN V ?_;clear V U)|refine aB ?_|refine cX ?_ ?_<;>intro hc<;>try simp only[dE] at hc|refine skW ?_|refine rtW ?_|refine kD fun U V=>?_|(refine aqN (V _ ?_);clear V U)|refine aqQ rfl rfl (fun hg=>by first|exact PRun.qB ab (qQ ⟨oM,oM⟩) rfl rfl nd rfl rfl|exact PRun.remV hkm hl0 rfl rfl nd rfl nd|exact aa|exact pc c3|exact af) (by exact rfl) ?_)
   all_goals first|exact⟨.inr rfl,Ent.b rfl⟩|(exfalso;simp at hc;done)|(exfalso;simp at hc;omega)
 · have h1:=Hn oM h0;rw[h1] at c2;generalize jX L ds l time c=X at *;refine PCall.body Tryz.func3 rfl rfl Tryz.ntmps3 rfl rfl ?_
   repeat' (first|refine qP ?_ (h:=fun hg=>by first|exact PRun.qB ab (qQ ⟨oM,oM⟩) rfl rfl nd rfl rfl|exact aa|exact pc c0|exact pc c1|exact pc c2|exact af)|apply sqW|refine rgK fun U V=>?_|(refine aN V ?_;clear V U)|refine aB ?_|refine cX ?_ ?_<;>intro hc<;>try simp only[dE] at hc|refine skW ?_|refine rtW ?_|refine kD fun U V=>?_|refine aqQ rfl rfl (fun hg=>by first|exact PRun.qB ab (qQ ⟨oM,oM⟩) rfl rfl nd rfl rfl|exact aa|exact af) (by exact rfl) ?_)
   all_goals first|exact⟨.inr rfl,Ent.b rfl⟩|(exfalso;simp at hc;done)|(exfalso;simp at hc;omega)
end Go.Proofs.YthiaimakjmhegaaGreatDoor.Top
namespace Go.Ab
open Go.ChangeShapes Go.WideShapes
section
variable {H:Type} {enc:TypeId×Value→H} {P:Program} {w:World} {base:Nat} {held:Bool} {spare:Nat→Bool}
theorem C5 {t:TypeId} {fs:List (Nat×Nat×Nat)} {s1 b1 fuel:Nat} {z:List Z} {cs:List Value} {x:DataW H×List MemPlace} (hl:LOk P t ⟨.struct fs,s1,b1,z⟩) (h:DataW.trod enc P w base spare held fuel t cs=some x) :
 cs.length=P.cellsOf t∧∃n,∀(i:Nat) ft off sz,fs[i]? = some (ft,off,sz)→∃y,DataW.trod enc P w base spare held n ft ((cs.drop off).take (P.cellsOf ft))=some y∧∀m∈y.1.weights P ft,m∈x.1.weights P t:=by
 obtain⟨d,h1,h2⟩:=hl.und;cases d<;>simp[ltOf] at h2;rename_i F;obtain⟨xs,n,_,hx,hlen,hxl,hf⟩:=DataW.trod_struct h1 h;refine⟨hlen,n,fun i ft off sz hi=>?_⟩;rw[←h2] at hi;simp only[zA5,zA6] at hi;obtain⟨f,hfi,hfe⟩:=hi;simp only[Prod.mk.injEq] at hfe;obtain⟨rfl,rfl,_⟩:=hfe;have hlt:i<F.toList.length:=by
  rcases nLg i F.toList.length with h|h
  · exact h
  · rw[zA3 h] at hfi;cases hfi
 have:=hf i f (by simpa using hfi);have cr:i<xs.length:=by rw[hxl];simpa using hlt
 refine⟨xs[i],by rw[this,zA1 cr],fun m hm=>?_⟩;rw[hx];show m∈DataW.weights P t (.agg (xs.map (·.1)));unfold DataW.weights;rw[h1];exact DataW.weights_mem_each (j:=i) (t:=f.type) (d:=(xs[i]).1) (by rw[zA5,hfi];rfl) (by rw[zA5,zA1 cr];rfl) m hm
theorem ze {t e:TypeId} {sz b fuel:Nat} {v:Value} {x:DataW H×List MemPlace} {es:List (List AV)} (hu:P.underlying t=some (.slice e)) (hb:P.bytesOf e=b) (hf:DataW.trod enc P w base spare held fuel t [v]=some x)
 (hr:ag (bH w) [] (.sl sz es .no) v) (hs:∀m∈x.1.weights P t,m≤reachBytes):es.length * b≤reachBytes:=by
 rcases Deep.open_slice hu hf with ⟨h1,h2⟩|⟨a,len,cap,m,n,D,Pl,h1,_,_,_,_,h2,_⟩
 · cases hr with
   |sl _ _ _ b off cap f=>simp at h1
   |slz=>simp
   |slzz=>simp
 · have h3:=hs (len * P.bytesOf e+(m - len) * P.bytesOf e) (by
    rw[h2];show _∈DataW.weights P t (.slice ((List.range len).map D) ((List.range (m - len)).map fun j=>D (len+j)));unfold DataW.weights;rw[hu];simp[zB5])
   rw[hb] at h3;have hl:es.length=len:=by
    cases hr with
    |sl _ _ _ b off cap f=>simp at h1;omega
    |slz=>simp at h1
    |slzz=>simp at h1;simp;omega
   rw[hl];omega
end
end Go.Ab
namespace Go.Proofs.YthiaimakjmhegaaGreatDoor.Top
open Go.Ab Go.Jo Go.Sy Go.Pl Go.ChangeShapes Go.WideShapes Al Mk Cy De Pl
section
variable {H:Type} {enc:TypeId×Value→H} {W:World} {base b0 fuel:Nat} {held:Bool} {spare:Nat→Bool}
theorem lkRp:LOk Tryz.prog 312 ⟨.struct [(3,0,1),(3,1,1),(3,2,1)],3,24,[.i .i64,.i .i64,.i .i64]⟩:=.of (ab.get rfl)
theorem lkEn:LOk Tryz.prog 314 ⟨.struct [(3,0,1),(3,1,1),(3,2,1)],3,24,[.i .i64,.i .i64,.i .i64]⟩:=.of (ab.get rfl)
theorem lkCt:LOk Tryz.prog 202 ⟨.struct [(3,0,1),(3,1,1),(3,2,1)],3,24,[.i .i64,.i .i64,.i .i64]⟩:=.of (ab.get rfl)
theorem lkJp:LOk Tryz.prog 71 ⟨.struct [(3,0,1),(3,1,1),(3,2,1)],3,24,[.i .i64,.i .i64,.i .i64]⟩:=.of (ab.get rfl)
theorem cnRp:Tryz.prog.cellsOf 312=3:=by kernel_rfl
theorem cnEn:Tryz.prog.cellsOf 314=3:=by kernel_rfl
theorem cnCt:Tryz.prog.cellsOf 202=3:=by kernel_rfl
theorem cnJp:Tryz.prog.cellsOf 71=3:=by kernel_rfl
theorem Ma:LOk Tryz.prog 68 ⟨.slice 312,1,24,[.slice]⟩:=.of (ab.get rfl)
theorem Mb:LOk Tryz.prog 69 ⟨.slice 314,1,24,[.slice]⟩:=.of (ab.get rfl)
theorem Mc:LOk Tryz.prog 72 ⟨.slice 202,1,24,[.slice]⟩:=.of (ab.get rfl)
theorem Md:Tryz.prog.cellsOf 68=1:=by kernel_rfl
theorem Me:Tryz.prog.cellsOf 69=1:=by kernel_rfl
theorem Mf:Tryz.prog.cellsOf 72=1:=by kernel_rfl
theorem pd {t:TypeId} (lk:LOk Tryz.prog t ⟨.struct [(3,0,1),(3,1,1),(3,2,1)],3,24,[.i .i64,.i .i64,.i .i64]⟩) (cn:Tryz.prog.cellsOf t=3) {cs:List Value} {x:DataW H×List MemPlace} (h:DataW.trod enc Tryz.prog W base spare held fuel t cs=some x):∃a b c:Int,cs=[vI a,vI b,vI c]:=by
 obtain⟨hlen,n,hf⟩:=bT lk h;rw[cn] at hlen
 match cs,hlen with
 | [u0, u1, u2], _ =>
   obtain⟨y0,h0⟩:=hf 0 3 0 1 rfl;obtain⟨y1,h1⟩:=hf 1 3 1 1 rfl;obtain⟨y2,h2⟩:=hf 2 3 2 1 rfl;rw[cn3] at h0 h1 h2;obtain⟨n0,e0,_⟩:=aY lk3 h0;obtain⟨n1,e1,_⟩:=aY lk3 h1;obtain⟨n2,e2,_⟩:=aY lk3 h2;simp at e0 e1 e2;subst e0 e1 e2;exact⟨n0,n1,n2,rfl⟩
theorem qv {a b c:Int}:∀(j:Nat) v,[AV.int a,AV.int b,AV.int c][j]? = some v→ag (bH W) [] v ([vI a,vI b,vI c].getD j undef):=fun j v hj=>by
 match j,hj with
 |0,hj=>simp at hj;subst hj;exact .prim _
 |1,hj=>simp at hj;subst hj;exact .prim _
 |2,hj=>simp at hj;subst hj;exact .prim _
 |j+3,hj=>simp at hj
theorem lkFo:LOk Tryz.prog 74 ⟨.struct [(3,0,1),(68,1,1),(69,2,1),(71,3,3),(72,6,1)],7,104,[.i .i64,.slice,.slice,.i .i64,.i .i64,.i .i64,.slice]⟩:=.of (ab.get rfl)
theorem cnFo:Tryz.prog.cellsOf 74=7:=by kernel_rfl
theorem JH {cs:List Value} {x:DataW H×List MemPlace} (h:DataW.trod enc Tryz.prog W base spare held fuel 74 cs=some x) :
 ∃f:aG,tM f∧cs.length=7∧∀(j:Nat) c,(aP f)[j]? = some c→ag (bH W) [] c (cs.getD j undef):=by
 obtain⟨hlen,n,hf⟩:=bT lkFo h;rw[cnFo] at hlen
 match cs,hlen with
 | [u0, u1, u2, u3, u4, u5, u6], _ =>
   obtain⟨y0,h0⟩:=hf 0 3 0 1 rfl;obtain⟨y1,h1⟩:=hf 1 68 1 1 rfl;obtain⟨y2,h2⟩:=hf 2 69 2 1 rfl;obtain⟨y3,h3⟩:=hf 3 71 3 3 rfl;obtain⟨y4,h4⟩:=hf 4 72 6 1 rfl;rw[cn3] at h0;rw[Md] at h1;rw[Me] at h2;rw[cnJp] at h3;rw[Mf] at h4;obtain⟨n0,e0,_⟩:=aY lk3 h0;simp at e0;subst e0;obtain⟨ja,jt,jf,e3⟩:=pd lkJp cnJp h3;simp at e3;obtain⟨rfl,rfl,rfl⟩:=e3;obtain⟨rs,g1,g2,_⟩:=cF (w:=W) (enc:=enc) (base:=base) (held:=held) (spare:=spare) ba (fun _=>True) (v:=u1) Ma.cv cnRp dCd (fun n cs y h=>by
    obtain⟨a,b,c,rfl⟩:=pd lkRp cnRp h;exact⟨⟨a,b,c⟩,rfl,qv,trivial⟩) h1
   obtain⟨es,g3,g4,_⟩:=cF (w:=W) (enc:=enc) (base:=base) (held:=held) (spare:=spare) ck (fun _=>True) (v:=u2) Mb.cv cnEn dCd (fun n cs y h=>by
    obtain⟨a,b,c,rfl⟩:=pd lkEn cnEn h;exact⟨⟨a,b,c⟩,rfl,qv,trivial⟩) h2
   obtain⟨ks,g5,g6,_⟩:=cF (w:=W) (enc:=enc) (base:=base) (held:=held) (spare:=spare) aM (fun _=>True) (v:=u6) Mc.cv cnCt dCd (fun n cs y h=>by
    obtain⟨a,b,c,rfl⟩:=pd lkCt cnCt h;exact⟨⟨a,b,c⟩,rfl,qv,trivial⟩) h4
   refine⟨⟨n0,rs,es,⟨ja,jt,jf⟩,ks⟩,⟨g2,g4,g6⟩,rfl,fun j c hj=>?_⟩
   match j,hj with
   |0,hj=>simp[aP] at hj;subst hj;exact .prim _
   |1,hj=>simp[aP] at hj;subst hj;exact g1
   |2,hj=>simp[aP] at hj;subst hj;exact g3
   |3,hj=>simp[aP] at hj;subst hj;exact .prim _
   |4,hj=>simp[aP] at hj;subst hj;exact .prim _
   |5,hj=>simp[aP] at hj;subst hj;exact .prim _
   |6,hj=>simp[aP] at hj;subst hj;exact g5
   |j+7,hj=>simp[aP] at hj
instance:Inhabited Tm:=⟨⟨0,⟨0,0⟩⟩⟩
theorem lkTm:LOk Tryz.prog 161 ⟨.struct [(3,0,1),(32,1,2)],3,24,[.i .i64,.i .i64,.i .i64]⟩:=.of (ab.get rfl)
theorem cnTm:Tryz.prog.cellsOf 161=3:=by kernel_rfl
theorem Mg:LOk Tryz.prog 115 ⟨.slice 161,1,24,[.slice]⟩:=.of (ab.get rfl)
theorem Mh:Tryz.prog.cellsOf 115=1:=by kernel_rfl
theorem Hv {cs:List Value} {x:DataW H×List MemPlace} (h:DataW.trod enc Tryz.prog W base spare held fuel 161 cs=some x):∃t:Tm,(eO t).length=3∧∀(j:Nat) c,(eO t)[j]? = some c→ag (bH W) [] c (cs.getD j undef):=by
 obtain⟨hlen,n,hf⟩:=bT lkTm h;rw[cnTm] at hlen
 match cs,hlen with
 | [u0, u1, u2], _ =>
   obtain⟨y0,h0⟩:=hf 0 3 0 1 rfl;obtain⟨y1,h1⟩:=hf 1 32 1 2 rfl;rw[cn3] at h0;rw[qH] at h1;obtain⟨n0,e0,_⟩:=aY lk3 h0;obtain⟨q,e1⟩:=tq h1;simp at e0;have q1:[u1,u2]=[vI q.n,vI q.d]:=by simpa[mV] using e1
   simp at q1;obtain⟨q1,q2⟩:=q1;subst e0 q1 q2;refine⟨⟨n0,q⟩,rfl,fun j c hj=>?_⟩
   match j,hj with
   |0,hj=>simp[eO] at hj;subst hj;exact .prim _
   |1,hj=>simp[eO] at hj;subst hj;exact .prim _
   |2,hj=>simp[eO] at hj;subst hj;exact .prim _
   |j+3,hj=>simp[eO] at hj
theorem lkWk:LOk Tryz.prog 117 ⟨.struct [(84,0,4),(74,4,7),(115,11,1)],12,208,[.i .i64,.slice,.slice,.slice,.i .i64,.slice,.slice,.i .i64,.i .i64,.i .i64,.slice,.slice]⟩:=.of (ab.get rfl)
theorem cnWk:Tryz.prog.cellsOf 117=12:=by kernel_rfl
theorem H7:LOk Tryz.prog 22 ⟨.slice 117,1,24,[.slice]⟩:=.of (ab.get rfl)
theorem Mi:Tryz.prog.cellsOf 84=4:=by kernel_rfl
theorem JI {cs:List Value} {x:DataW H×List MemPlace} (h:DataW.trod enc Tryz.prog W base spare held fuel 117 cs=some x):∃w:aV,(aU w).length=12∧(∀(j:Nat) c,(aU w)[j]? = some c→ag (bH W) [] c (cs.getD j undef))∧kU w∧w.gK.length≤9223372036854775807:=by
 obtain⟨hlen,n,hf⟩:=bT lkWk h;rw[cnWk] at hlen
 match cs,hlen with
 | [u0, u1, u2, u3, u4, u5, u6, u7, u8, u9, u10, u11], _ =>
   obtain⟨y0,h0⟩:=hf 0 84 0 4 rfl;obtain⟨y1,h1⟩:=hf 1 74 4 7 rfl;obtain⟨y2,h2⟩:=hf 2 115 11 1 rfl;rw[Mi] at h0;rw[cnFo] at h1;rw[Mh] at h2;obtain⟨s,_,g1,gz⟩:=Gs h0;obtain⟨f,fz,_,g2⟩:=JH h1;obtain⟨ts,g3,g4,_⟩:=cF (w:=W) (enc:=enc) (base:=base) (held:=held) (spare:=spare) eO (fun _=>True) (v:=u11) Mg.cv cnTm dCd (fun n cs y h=>by
    obtain⟨t,t1,t2⟩:=Hv h;exact⟨t,t1,t2,trivial⟩) h2
   refine⟨⟨s,f,ts⟩,rfl,fun j c hj=>?_,⟨gz,fz⟩,g4⟩
   match j,hj with
   |0,hj=>simp[aU] at hj;subst hj;simpa using g1 0 _ rfl
   |1,hj=>simp[aU] at hj;subst hj;simpa using g1 1 _ rfl
   |2,hj=>simp[aU] at hj;subst hj;simpa using g1 2 _ rfl
   |3,hj=>simp[aU] at hj;subst hj;simpa using g1 3 _ rfl
   |4,hj=>simp[aU] at hj;subst hj;simpa using g2 0 _ rfl
   |5,hj=>simp[aU] at hj;subst hj;simpa using g2 1 _ rfl
   |6,hj=>simp[aU] at hj;subst hj;simpa using g2 2 _ rfl
   |7,hj=>simp[aU] at hj;subst hj;simpa using g2 3 _ rfl
   |8,hj=>simp[aU] at hj;subst hj;simpa using g2 4 _ rfl
   |9,hj=>simp[aU] at hj;subst hj;simpa using g2 5 _ rfl
   |10,hj=>simp[aU] at hj;subst hj;simpa using g2 6 _ rfl
   |11,hj=>simp[aU] at hj;subst hj;exact g3
   |j+12,hj=>simp[aU] at hj
theorem lkDc:LOk Tryz.prog 193 ⟨.struct [(3,0,1),(3,1,1),(3,2,1),(3,3,1),(3,4,1),(3,5,1)],6,48,[.i .i64,.i .i64,.i .i64,.i .i64,.i .i64,.i .i64]⟩:=.of (ab.get rfl)
theorem cnDc:Tryz.prog.cellsOf 193=6:=by kernel_rfl
theorem H8:LOk Tryz.prog 28 ⟨.slice 193,1,24,[.slice]⟩:=.of (ab.get rfl)
theorem KC {cs:List Value} {x:DataW H×List MemPlace} (h:DataW.trod enc Tryz.prog W base spare held fuel 193 cs=some x):∃q:Dec,(bx q).length=6∧∀(j:Nat) c,(bx q)[j]? = some c→ag (bH W) [] c (cs.getD j undef):=by
 obtain⟨hlen,n,hf⟩:=bT lkDc h;rw[cnDc] at hlen
 match cs,hlen with
 | [u0, u1, u2, u3, u4, u5], _ =>
   obtain⟨y0,h0⟩:=hf 0 3 0 1 rfl;obtain⟨y1,h1⟩:=hf 1 3 1 1 rfl;obtain⟨y2,h2⟩:=hf 2 3 2 1 rfl;obtain⟨y3,h3⟩:=hf 3 3 3 1 rfl;obtain⟨y4,h4⟩:=hf 4 3 4 1 rfl;obtain⟨y5,h5⟩:=hf 5 3 5 1 rfl;rw[cn3] at h0 h1 h2 h3 h4 h5;obtain⟨n0,e0,_⟩:=aY lk3 h0;obtain⟨n1,e1,_⟩:=aY lk3 h1;obtain⟨n2,e2,_⟩:=aY lk3 h2;obtain⟨n3,e3,_⟩:=aY lk3 h3;obtain⟨n4,e4,_⟩:=aY lk3 h4;obtain⟨n5,e5,_⟩:=aY lk3 h5;simp at e0 e1 e2 e3 e4 e5;subst e0 e1 e2 e3 e4 e5;refine⟨⟨n0,n1,n2,n3,n4,n5⟩,rfl,fun j c hj=>?_⟩
   match j,hj with
   |0,hj|1,hj|2,hj|3,hj|4,hj|5,hj=>simp only[bx,zBf,zBx,Option.some.injEq] at hj;subst hj;exact .prim _
   |j+6,hj=>simp[bx] at hj
theorem JJ {r:Reach} {v:Value} {d:DataW H} {p:List MemPlace} (dX:Value.okWide Tryz.prog W r b0 28 v) (h:DataW.Trod enc Tryz.prog W base spare held 28 v d p) :
 ∃l:List Dec,ag (bH W) [] (.sl 6 (l.map bx) .no) v∧l.length≤9223372036854775807:=by
 obtain⟨fuel,hf⟩:=h;rw[tp H8.cv dX] at hf;obtain⟨l,h1,h2,_⟩:=cF (w:=W) (enc:=enc) (base:=base) (held:=held) (spare:=spare) bx (fun _=>True) H8.cv cnDc dCd (fun n cs y h=>by
  obtain⟨t,t1,t2⟩:=KC h;exact⟨t,t1,t2,trivial⟩) hf
 exact⟨l,h1,h2⟩
theorem lkEv:LOk Tryz.prog 253 ⟨.struct [(3,0,1),(3,1,1),(3,2,1),(3,3,1),(251,4,10)],14,120,[.i .i64,.i .i64,.i .i64,.i .i64,.i .i64,.i .i64,.i .i64,.i .i64,.i .i64,.i .i64,.i .i64,.i .i64,.i .i64,.str]⟩:=.of (ab.get rfl)
theorem cnEv:Tryz.prog.cellsOf 253=14:=by kernel_rfl
theorem Mj:LOk Tryz.prog 54 ⟨.slice 253,1,24,[.slice]⟩:=.of (ab.get rfl)
theorem Ml:Tryz.prog.cellsOf 54=1:=by kernel_rfl
theorem Hw {cs:List Value} {x:DataW H×List MemPlace} (h:DataW.trod enc Tryz.prog W base spare held fuel 253 cs=some x):∃e:Ev,(aF e).length=14∧(∀(j:Nat) c,(aF e)[j]? = some c→ag (bH W) [] c (cs.getD j undef))∧e.mark.text.length≤9223372036854775807:=by
 obtain⟨hlen,n,hf⟩:=bT lkEv h;rw[cnEv] at hlen
 match cs,hlen with
 | [u0, u1, u2, u3, u4, u5, u6, u7, u8, u9, u10, u11, u12, u13], _ =>
   obtain⟨y0,h0⟩:=hf 0 3 0 1 rfl;obtain⟨y1,h1⟩:=hf 1 3 1 1 rfl;obtain⟨y2,h2⟩:=hf 2 3 2 1 rfl;obtain⟨y3,h3⟩:=hf 3 3 3 1 rfl;obtain⟨y4,h4⟩:=hf 4 251 4 10 rfl;rw[cn3] at h0 h1 h2 h3;rw[cnM] at h4;obtain⟨n0,e0,_⟩:=aY lk3 h0;obtain⟨n1,e1,_⟩:=aY lk3 h1;obtain⟨n2,e2,_⟩:=aY lk3 h2;obtain⟨n3,e3,_⟩:=aY lk3 h3;obtain⟨m,e4,hm⟩:=rdM h4;simp[vM] at e0 e1 e2 e3 e4;obtain⟨q0,q1,q2,q3,q4,q5,q6,q7,q8,q9⟩:=e4;subst e0 e1 e2 e3 q0 q1 q2 q3 q4 q5 q6 q7 q8 q9;refine⟨⟨n0,n1,n2,n3,m⟩,rfl,fun j c hj=>?_,hm⟩
   match j,hj with
   |0,hj|1,hj|2,hj|3,hj|4,hj|5,hj|6,hj|7,hj|8,hj|9,hj|10,hj|11,hj|12,hj|13,hj=>simp only[aF,zBf,zBx,Option.some.injEq] at hj;subst hj;exact .prim _
   |j+14,hj=>simp[aF] at hj
theorem lkSt:LOk Tryz.prog 56 ⟨.struct [(3,0,1),(53,1,3),(3,4,1),(3,5,1),(54,6,1)],7,72,[.i .i64,.i .i64,.i .i64,.i .i64,.i .i64,.i .i64,.slice]⟩:=.of (ab.get rfl)
theorem cnSt:Tryz.prog.cellsOf 56=7:=by kernel_rfl
theorem cnT9:Tryz.prog.cellsOf 9=1:=by kernel_rfl
theorem cnSP:Tryz.prog.cellsOf 88=1:=by kernel_rfl
theorem cnSL:Tryz.prog.cellsOf 89=1:=by kernel_rfl
theorem cnEd:Tryz.prog.cellsOf 91=4:=by kernel_rfl
theorem cnLe:Tryz.prog.cellsOf 100=2:=by kernel_rfl
theorem cnPr:Tryz.prog.cellsOf 98=3:=by kernel_rfl
theorem lkT9:LOk Tryz.prog 9 ⟨.str,1,16,[.str]⟩:=.of (ab.get rfl)
theorem lkSP:LOk Tryz.prog 88 ⟨.slice 98,1,24,[.slice]⟩:=.of (ab.get rfl)
theorem lkSL:LOk Tryz.prog 89 ⟨.slice 100,1,24,[.slice]⟩:=.of (ab.get rfl)
theorem lkEd:LOk Tryz.prog 91 ⟨.struct [(3,0,1),(3,1,1),(88,2,1),(89,3,1)],4,64,[.i .i64,.i .i64,.slice,.slice]⟩:=.of (ab.get rfl)
theorem lkLe:LOk Tryz.prog 100 ⟨.struct [(9,0,1),(3,1,1)],2,24,[.str,.i .i64]⟩:=.of (ab.get rfl)
theorem lkPr:LOk Tryz.prog 98 ⟨.struct [(3,0,1),(3,1,1),(3,2,1)],3,24,[.i .i64,.i .i64,.i .i64]⟩:=.of (ab.get rfl)
theorem C6 {cs:List Value} {x:DataW H×List MemPlace} (h:DataW.trod enc Tryz.prog W base spare held fuel 98 cs=some x):∃a:Ed.cN,(Ed.bz a).length=3∧(∀(j:Nat) c,(Ed.bz a)[j]? = some c→ag (bH W) [] c (cs.getD j undef))∧True:=by
 obtain⟨hlen,n,hf⟩:=bT lkPr h;rw[cnPr] at hlen
 match cs,hlen with
 | [u0, u1, u2], _ =>
   obtain⟨y0,h0⟩:=hf 0 3 0 1 rfl;obtain⟨y1,h1⟩:=hf 1 3 1 1 rfl;obtain⟨y2,h2⟩:=hf 2 3 2 1 rfl;rw[cn3] at h0 h1 h2;obtain⟨n0,e0,_⟩:=aY lk3 h0;obtain⟨n1,e1,_⟩:=aY lk3 h1;obtain⟨n2,e2,_⟩:=aY lk3 h2;simp at e0 e1 e2;subst e0 e1 e2;refine⟨(⟨n0,n1,n2⟩:Ed.cN),rfl,fun j c hj=>?_,trivial⟩
   match j,hj with
   |0,hj=>simp[Ed.bz] at hj;subst hj;exact .prim _
   |1,hj=>simp[Ed.bz] at hj;subst hj;exact .prim _
   |2,hj=>simp[Ed.bz] at hj;subst hj;exact .prim _
   |j+3,hj=>simp[Ed.bz] at hj
theorem Fl {cs:List Value} {x:DataW H×List MemPlace} (h:DataW.trod enc Tryz.prog W base spare held fuel 100 cs=some x):∃a:Ed.Letter,(Ed.dL a).length=2∧(∀(j:Nat) c,(Ed.dL a)[j]? = some c→ag (bH W) [] c (cs.getD j undef))∧a.name.size≤maxLen:=by
 obtain⟨hlen,n,hf⟩:=bT lkLe h;rw[cnLe] at hlen
 match cs,hlen with
 | [u0, u1], _ =>
   obtain⟨y0,h0⟩:=hf 0 9 0 1 rfl;obtain⟨y1,h1⟩:=hf 1 3 1 1 rfl;rw[cnT9] at h0;rw[cn3] at h1;obtain⟨n0,e0,hs⟩:=xf lkT9 h0;obtain⟨n1,e1,_⟩:=aY lk3 h1;simp at e0 e1;subst e0 e1;refine⟨(⟨n0,n1⟩:Ed.Letter),rfl,fun j c hj=>?_,hs⟩
   match j,hj with
   |0,hj=>simp[Ed.dL] at hj;subst hj;exact .prim _
   |1,hj=>simp[Ed.dL] at hj;subst hj;exact .prim _
   |j+2,hj=>simp[Ed.dL] at hj
theorem C7 {cs:List Value} {x:DataW H×List MemPlace} (h:DataW.trod enc Tryz.prog W base spare held fuel 91 cs=some x):∃e:Ed.ah,(Ed.aF e).length=4∧(∀(j:Nat) c,(Ed.aF e)[j]? = some c→ag (bH W) [] c (cs.getD j undef))∧Ed.Wf e:=by
 obtain⟨hlen,n,hf⟩:=bT lkEd h;rw[cnEd] at hlen
 match cs,hlen with
 | [u0, u1, u2, u3], _ =>
   obtain⟨y0,h0⟩:=hf 0 3 0 1 rfl;obtain⟨y1,h1⟩:=hf 1 3 1 1 rfl;obtain⟨y2,h2⟩:=hf 2 88 2 1 rfl;obtain⟨y3,h3⟩:=hf 3 89 3 1 rfl;rw[cn3] at h0 h1;rw[cnSP] at h2;rw[cnSL] at h3;obtain⟨n0,e0,_⟩:=aY lk3 h0;obtain⟨n1,e1,_⟩:=aY lk3 h1;simp at e0 e1;subst e0 e1;obtain⟨bs,g1,g2,_⟩:=cF (w:=W) (enc:=enc) (base:=base) (held:=held) (spare:=spare) Ed.bz (fun _=>True) (v:=u2) lkSP.cv cnPr dCd (fun n cs y h=>C6 h) h2;obtain⟨ls,g3,g4,g5⟩:=cF (w:=W) (enc:=enc) (base:=base) (held:=held) (spare:=spare) Ed.dL (fun l=>l.name.size≤maxLen) (v:=u3) lkSL.cv cnLe dCd (fun n cs y h=>Fl h) h3;refine⟨⟨n0,n1,bs,ls⟩,rfl,fun i c hi=>?_,⟨g2,g4,g5⟩⟩
   match i,hi with
   |0,hi=>simp[Ed.aF] at hi;subst hi;exact .prim _
   |1,hi=>simp[Ed.aF] at hi;subst hi;exact .prim _
   |2,hi=>simp[Ed.aF] at hi;subst hi;exact g1
   |3,hi=>simp[Ed.aF] at hi;subst hi;exact g3
   |i+4,hi=>simp[Ed.aF] at hi
theorem Mm:LOk Tryz.prog 23 ⟨.slice 91,1,24,[.slice]⟩:=.of (ab.get rfl)
theorem Mn:Tryz.prog.cellsOf 23=1:=by kernel_rfl
theorem Mo:Tryz.prog.cellsOf 22=1:=by kernel_rfl
theorem lkU8:LOk Tryz.prog 242 ⟨.int .u64,1,8,[.i .u64]⟩:=.of (ab.get rfl)
theorem cnU8:Tryz.prog.cellsOf 242=1:=by kernel_rfl
theorem lkSh:LOk Tryz.prog 244 ⟨.struct [(3,0,1),(3,1,1),(3,2,1),(3,3,1),(3,4,1),(242,5,1)],6,48,[.i .i64,.i .i64,.i .i64,.i .i64,.i .i64,.i .u64]⟩:=.of (ab.get rfl)
theorem cnSh:Tryz.prog.cellsOf 244=6:=by kernel_rfl
theorem Mp:LOk Tryz.prog 24 ⟨.slice 244,1,24,[.slice]⟩:=.of (ab.get rfl)
theorem Mq:Tryz.prog.cellsOf 24=1:=by kernel_rfl
theorem Hy {cs:List Value} {x:DataW H×List MemPlace} (h:DataW.trod enc Tryz.prog W base spare held fuel 244 cs=some x):∃q:kM,(je q).length=6∧∀(j:Nat) c,(je q)[j]? = some c→ag (bH W) [] c (cs.getD j undef):=by
 obtain⟨hlen,n,hf⟩:=bT lkSh h;rw[cnSh] at hlen
 match cs,hlen with
 | [u0, u1, u2, u3, u4, u5], _ =>
   obtain⟨y0,h0⟩:=hf 0 3 0 1 rfl;obtain⟨y1,h1⟩:=hf 1 3 1 1 rfl;obtain⟨y2,h2⟩:=hf 2 3 2 1 rfl;obtain⟨y3,h3⟩:=hf 3 3 3 1 rfl;obtain⟨y4,h4⟩:=hf 4 3 4 1 rfl;obtain⟨y5,h5⟩:=hf 5 242 5 1 rfl;rw[cn3] at h0 h1 h2 h3 h4;rw[cnU8] at h5;obtain⟨n0,e0,_⟩:=aY lk3 h0;obtain⟨n1,e1,_⟩:=aY lk3 h1;obtain⟨n2,e2,_⟩:=aY lk3 h2;obtain⟨n3,e3,_⟩:=aY lk3 h3;obtain⟨n4,e4,_⟩:=aY lk3 h4;obtain⟨n5,e5,w5⟩:=aY lkU8 h5;simp at e0 e1 e2 e3 e4 e5;subst e0 e1 e2 e3 e4 e5;have w6:0≤n5:=by
    simp only[Lit.wf,zA0,dEt] at w5;exact w5.1
   refine⟨⟨n0,n1,n2,n3,n4,n5.toNat⟩,rfl,fun j c hj=>?_⟩
   match j,hj with
   |0,hj|1,hj|2,hj|3,hj|4,hj=>simp only[je,zBf,zBx,Option.some.injEq] at hj;subst hj;exact .prim _
   | 5, hj =>
     simp only[je,zBf,zBx,Option.some.injEq] at hj;subst hj;rw[Int.toNat_of_nonneg w6];exact .prim _
   |j+6,hj=>simp[je] at hj
theorem lkLn:LOk Tryz.prog 183 ⟨.struct [(3,0,1),(3,1,1),(3,2,1),(3,3,1),(3,4,1)],5,40,[.i .i64,.i .i64,.i .i64,.i .i64,.i .i64]⟩:=.of (ab.get rfl)
theorem cnLn:Tryz.prog.cellsOf 183=5:=by kernel_rfl
theorem Mr:LOk Tryz.prog 25 ⟨.slice 183,1,24,[.slice]⟩:=.of (ab.get rfl)
theorem Ms:Tryz.prog.cellsOf 25=1:=by kernel_rfl
theorem JK {cs:List Value} {x:DataW H×List MemPlace} (h:DataW.trod enc Tryz.prog W base spare held fuel 183 cs=some x):∃q:eo,(bS q).length=5∧∀(j:Nat) c,(bS q)[j]? = some c→ag (bH W) [] c (cs.getD j undef):=by
 obtain⟨hlen,n,hf⟩:=bT lkLn h;rw[cnLn] at hlen
 match cs,hlen with
 | [u0, u1, u2, u3, u4], _ =>
   obtain⟨y0,h0⟩:=hf 0 3 0 1 rfl;obtain⟨y1,h1⟩:=hf 1 3 1 1 rfl;obtain⟨y2,h2⟩:=hf 2 3 2 1 rfl;obtain⟨y3,h3⟩:=hf 3 3 3 1 rfl;obtain⟨y4,h4⟩:=hf 4 3 4 1 rfl;rw[cn3] at h0 h1 h2 h3 h4;obtain⟨n0,e0,_⟩:=aY lk3 h0;obtain⟨n1,e1,_⟩:=aY lk3 h1;obtain⟨n2,e2,_⟩:=aY lk3 h2;obtain⟨n3,e3,_⟩:=aY lk3 h3;obtain⟨n4,e4,_⟩:=aY lk3 h4;simp at e0 e1 e2 e3 e4;subst e0 e1 e2 e3 e4;refine⟨⟨n0,n1,n2,n3,n4⟩,rfl,fun j c hj=>?_⟩
   match j,hj with
   |0,hj|1,hj|2,hj|3,hj|4,hj=>simp only[bS,zBf,zBx,Option.some.injEq] at hj;subst hj;exact .prim _
   |j+5,hj=>simp[bS] at hj
theorem lkLi:LOk Tryz.prog 27 ⟨.struct [(22,0,1),(23,1,1),(24,2,1),(25,3,1)],4,96,[.slice,.slice,.slice,.slice]⟩:=.of (ab.get rfl)
theorem cnLi:Tryz.prog.cellsOf 27=4:=by kernel_rfl
theorem ctLi:Tryz.prog.cellTypes Tryz.prog.depth 27=some [22,23,24,25]:=by kernel_rfl
theorem KD {r:Reach} {v:Value} {d:DataW H} {p:List MemPlace} {ts:List TypeId} {ds:List (DataW H)} (dX:Value.okWide Tryz.prog W r b0 27 v) (h:DataW.Trod enc Tryz.prog W base spare held 27 v d p) (hs:(DataW.weightsEach Tryz.prog ts ds).all (·≤reachBytes)=true) {j:Nat} (ht:ts[j]? = some 27) (hd:ds[j]? = some d) :
 ∃L:Lib,ag (bH W) [] (.agg (bq L)) v∧zd L:=by
 obtain⟨cs,rfl,hsz,_⟩:=uX lkLi ctLi dX;obtain⟨fuel,hf⟩:=h;obtain⟨l,rfl⟩:∃l,cs=List.toArray l:=⟨cs.toList,by simp⟩
 simp only[Value.cells] at hf;obtain⟨hlen,n,hf⟩:=C5 lkLi hf;rw[cnLi] at hlen
 match l,hlen with
 | [u0, u1, u2, u3], _ =>
   obtain⟨y0,h0,k0⟩:=hf 0 22 0 1 rfl;obtain⟨y1,h1,_⟩:=hf 1 23 1 1 rfl;obtain⟨y2,h2,_⟩:=hf 2 24 2 1 rfl;obtain⟨y3,h3,_⟩:=hf 3 25 3 1 rfl;rw[Mo] at h0;rw[Mn] at h1;rw[Mq] at h2;rw[Ms] at h3;obtain⟨ws,a1,_,a3⟩:=cF (w:=W) (enc:=enc) (base:=base) (held:=held) (spare:=spare) aU (fun w=>kU w∧w.gK.length≤9223372036854775807) (v:=u0) H7.cv cnWk dCd (fun n cs y h=>JI h) h0;obtain⟨es,b1,b2,b3⟩:=cF (w:=W) (enc:=enc) (base:=base) (held:=held) (spare:=spare) Ed.aF Ed.Wf (v:=u1) Mm.cv cnEd dCd (fun n cs y h=>C7 h) h1;obtain⟨ss,c1,c2,_⟩:=cF (w:=W) (enc:=enc) (base:=base) (held:=held) (spare:=spare) je (fun _=>True) (v:=u2) Mp.cv cnSh dCd (fun n cs y h=>by
    obtain⟨t,t1,t2⟩:=Hy h;exact⟨t,t1,t2,trivial⟩) h2
   obtain⟨ls,e1,e2,_⟩:=cF (w:=W) (enc:=enc) (base:=base) (held:=held) (spare:=spare) bS (fun _=>True) (v:=u3) Mr.cv cnLn dCd (fun n cs y h=>by
    obtain⟨t,t1,t2⟩:=JK h;exact⟨t,t1,t2,trivial⟩) h3
   have hw:=ze (b:=208) H7.cv (by kernel_rfl) h0 a1 (fun m hm=>by
    have:=zA4.1 hs m (DataW.weights_mem_each ht hd m (k0 m hm));simpa using this)
   have hr:reachBytes=140737488351232:=dCd;rw[lLm,hr] at hw;refine⟨⟨ws,es,ss,ls⟩,.agg _ _ rfl fun i c hi=>?_,⟨by show ws.length≤_;omega,a3,b2,b3,c2,e2⟩⟩
   match i,hi with
   |0,hi=>simp[bq,kN] at hi;subst hi;exact a1
   |1,hi=>simp[bq,kN] at hi;subst hi;exact b1
   |2,hi=>simp[bq,kN] at hi;subst hi;exact c1
   |3,hi=>simp[bq,kN] at hi;subst hi;exact e1
   |i+4,hi=>simp[bq,kN] at hi
theorem KE {cs:List Value} {x:DataW H×List MemPlace} (h:DataW.trod enc Tryz.prog W base spare held fuel 56 cs=some x):∃s:Std,(aR s).length=7∧(∀(j:Nat) c,(aR s)[j]? = some c→ag (bH W) [] c (cs.getD j undef))∧s.evs.length≤9223372036854775807∧Txt s.evs:=by
 obtain⟨hlen,n,hf⟩:=bT lkSt h;rw[cnSt] at hlen
 match cs,hlen with
 | [u0, u1, u2, u3, u4, u5, u6], _ =>
   obtain⟨y0,h0⟩:=hf 0 3 0 1 rfl;obtain⟨y1,h1⟩:=hf 1 53 1 3 rfl;obtain⟨y2,h2⟩:=hf 2 3 4 1 rfl;obtain⟨y3,h3⟩:=hf 3 3 5 1 rfl;obtain⟨y4,h4⟩:=hf 4 54 6 1 rfl;rw[cn3] at h0 h2 h3;rw[cnR] at h1;rw[Ml] at h4;obtain⟨n0,e0,_⟩:=aY lk3 h0;obtain⟨q,e1⟩:=rdR h1;obtain⟨n2,e2,_⟩:=aY lk3 h2;obtain⟨n3,e3,_⟩:=aY lk3 h3;simp[vR] at e0 e1 e2 e3;obtain⟨q0,q1,q2⟩:=e1;subst e0 q0 q1 q2 e2 e3;obtain⟨es,g1,g2,g3⟩:=cF (w:=W) (enc:=enc) (base:=base) (held:=held) (spare:=spare) aF (fun e=>e.mark.text.length≤9223372036854775807) (v:=u6) Mj.cv cnEv dCd (fun n cs y h=>Hw h) h4;refine⟨⟨n0,q,n2,n3,es⟩,rfl,fun i c hi=>?_,g2,g3⟩
   match i,hi with
   |0,hi|1,hi|2,hi|3,hi|4,hi|5,hi=>simp only[aR,zBf,zBx,Option.some.injEq] at hi;subst hi;exact .prim _
   |6,hi=>simp[aR] at hi;subst hi;exact g1
   |i+7,hi=>simp[aR] at hi
theorem H9:LOk Tryz.prog 29 ⟨.slice 56,1,24,[.slice]⟩:=.of (ab.get rfl)
theorem Fm {r:Reach} {v:Value} {d:DataW H} {p:List MemPlace} (dX:Value.okWide Tryz.prog W r b0 29 v) (h:DataW.Trod enc Tryz.prog W base spare held 29 v d p) :
 ∃l:List Std,ag (bH W) [] (.sl 7 (l.map aR) .no) v∧l.length≤9223372036854775807∧∀s∈l,s.evs.length≤9223372036854775807∧Txt s.evs:=by
 obtain⟨fuel,hf⟩:=h;rw[tp H9.cv dX] at hf;exact cF (w:=W) (enc:=enc) (base:=base) (held:=held) (spare:=spare) aR (fun s=>s.evs.length≤9223372036854775807∧Txt s.evs) H9.cv cnSt dCd (fun n cs y h=>KE h) hf
theorem lkCl:LOk Tryz.prog 34 ⟨.struct [(9,0,1),(3,1,1),(3,2,1),(32,3,2),(3,5,1)],6,56,[.str,.i .i64,.i .i64,.i .i64,.i .i64,.i .i64]⟩:=.of (ab.get rfl)
theorem cnCl:Tryz.prog.cellsOf 34=6:=by kernel_rfl
theorem ctCl:Tryz.prog.cellTypes Tryz.prog.depth 34=some [9,3,3,3,3,3]:=by kernel_rfl
theorem JL {r:Reach} {v:Value} {d:DataW H} {p:List MemPlace} (dX:Value.okWide Tryz.prog W r b0 34 v) (h:DataW.Trod enc Tryz.prog W base spare held 34 v d p):∃c:Pl.Call,ag (bH W) [] (.agg (bw c)) v∧c.letter.size≤9223372036854775807:=by
 obtain⟨cs,rfl,hsz,_⟩:=uX lkCl ctCl dX;obtain⟨fuel,hf⟩:=h;obtain⟨l,rfl⟩:∃l,cs=List.toArray l:=⟨cs.toList,by simp⟩
 simp only[Value.cells] at hf;obtain⟨hlen,n,hf⟩:=bT lkCl hf;rw[cnCl] at hlen
 match l,hlen with
 | [u0, u1, u2, u3, u4, u5], _ =>
   obtain⟨y0,h0⟩:=hf 0 9 0 1 rfl;obtain⟨y1,h1⟩:=hf 1 3 1 1 rfl;obtain⟨y2,h2⟩:=hf 2 3 2 1 rfl;obtain⟨y3,h3⟩:=hf 3 32 3 2 rfl;obtain⟨y4,h4⟩:=hf 4 3 5 1 rfl;rw[cnT9] at h0;rw[cn3] at h1 h2 h4;rw[qH] at h3;obtain⟨n0,e0,hs⟩:=xf lkT9 h0;obtain⟨n1,e1,_⟩:=aY lk3 h1;obtain⟨n2,e2,_⟩:=aY lk3 h2;obtain⟨q,e3⟩:=tq h3;obtain⟨n4,e4,_⟩:=aY lk3 h4;simp at e0 e1 e2 e4;have q3:[u3,u4]=[vI q.n,vI q.d]:=by simpa[mV] using e3
   simp at q3;obtain⟨q3,q5⟩:=q3;clear e3;subst e0 e1 e2 q3 e4 q5;refine⟨(⟨n0,n1,n2,q,n4⟩:Pl.Call),.agg _ _ rfl fun i c hi=>?_,hs⟩
   match i,hi with
   |0,hi=>simp[bw] at hi;subst hi;exact .prim _
   |1,hi=>simp[bw] at hi;subst hi;exact .prim _
   |2,hi=>simp[bw] at hi;subst hi;exact .prim _
   |3,hi=>simp[bw] at hi;subst hi;exact .prim _
   |4,hi=>simp[bw] at hi;subst hi;exact .prim _
   |5,hi=>simp[bw] at hi;subst hi;exact .prim _
   |i+6,hi=>simp[bw] at hi
end
end Go.Proofs.YthiaimakjmhegaaGreatDoor.Top
