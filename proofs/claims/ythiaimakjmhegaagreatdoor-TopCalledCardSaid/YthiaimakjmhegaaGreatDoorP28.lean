/- Parts of the proof. No statement is proved here. -/
import Derived.Test.YthiaimakjmhegaaGreatDoorP24
import Derived.Test.YthiaimakjmhegaaGreatDoorP25
set_option linter.unusedVariables false
set_option linter.unusedSimpArgs false
set_option maxHeartbeats 16000000
set_option maxRecDepth 20000
namespace Go.Proofs.YthiaimakjmhegaaGreatDoor.De
open Go.Ab Go.Pl Pl
attribute [local irreducible] AWP AOps EStep AQ PStep PRun PCall TCall VCall
theorem oU {E:List (List AV)} (hE:∀e∈E,∃c:Int,e=eI c):∀e∈E,∀a∈e,∀M B x,ag M B a x→ag M [] a x:=fun e he a ha M B x hx=>by
 obtain⟨c,rfl⟩:=hE e he;rw[zA9.1 ha] at hx ⊢;cases hx;exact .prim _
theorem Co {E:List (List AV)} (hE:∀e∈E,∃c:Int,e=eI c):∀e∈E,e.all eH=true:=fun e he=>by
 obtain⟨c,rfl⟩:=hE e he;rfl
theorem okI {E:List (List AV)} (hE:∀e∈E,∃c:Int,e=eI c) (ver:Nat):OkA (.arr 1 ver E):=fun m=>by
 simp only[aD,zA4];intro e he a ha;obtain⟨c,rfl⟩:=hE e he;rw[zA9.1 ha];rfl
theorem Cp {o0 o1 o2 o3 o4:bc} (ho:∀o∈[o0,o1,o2,o3,o4],OkA o) {E:List (List AV)} (hE:∀e∈E,∃c:Int,e=eI c) (ver:Nat):([o0,o1,o2,o3,o4,.dead,.arr 1 ver E]:ae).all (aD 7)=true:=mF (fun o h=>by
 rcases zAx.1 (show o∈[o0,o1,o2,o3,o4]++[.dead,.arr 1 ver E] from h) with h|h
 · exact ho o h
 · rcases zAo.1 h with rfl|h
   · exact fun _=>rfl
   · rw[zA9.1 h];exact okI hE ver) 7
theorem AX {E:List (List AV)} (hE:∀e∈E,∃c:Int,e=eI c) (i:Nat) (x:Int):∀e∈E.take i++eI x::E.drop i,∃c:Int,e=eI c:=fun e he=>by
 rcases zAx.1 he with h|h
 · exact hE e (zC0 h)
 · rcases zAo.1 h with rfl|h
   · exact⟨x,rfl⟩
   · exact hE e (zC9 h)
theorem Kt {E:List (List AV)} (hE:∀e∈E,∃c:Int,e=eI c) (hne:E≠[]) (hl:E.length≤1000) (x:Int) {o0 o1 o2 o3 o4:bc} (ho:∀o∈[o0,o1,o2,o3,o4],OkA o) :
 TCall Tryz.prog 239 [.sla 6 1 0 E.length 0,.int E.length,.sla 5 1 0 1 1] [o0,o1,o2,o3,o4,.arr 1 1 [eI x],.arr 1 0 E] (fun r s=>∃ver,r=.sla 6 1 0 (E.length+1) ver∧s=[o0,o1,o2,o3,o4,.dead,.arr 1 ver (E++[eI x])]):=by
 have cK:0<E.length:=zDd.2 hne;have hok:=Cp ho (E:=E++[eI x]) (fun e he=>by
  rcases zAx.1 he with h|h
  · exact hE e h
  · exact⟨x,zA9.1 h⟩) 1
 refine TCall.body Tryz.func239 rfl rfl Tryz.ntmps239 rfl rfl ?_;refine AWP.gM (d:=2) (l:=5) (es:=[eI x]) rfl rfl (oU fun e he=>⟨x,zA9.1 he⟩) ?_
 repeat' (first|refine qP ?_ (h:=fun hg=>by first|exact PRun.kn ab E.length E.length 0 rfl rfl nd rfl oM nd rfl rfl oM oM oM|exact aa|exact PRun.j8 ab rfl rfl nd rfl|exact af)|apply sqW|refine rgK fun U V=>?_|(refine aN V ?_;clear V U)|refine aoE (EStep.tm ab rfl rfl rfl dCd (Rd.w rfl tI) (.inl ⟨rfl,hne⟩) rfl (Rd.w rfl tI) (.sl rfl (Co fun e he=>⟨x,zA9.1 he⟩)) (zBz _) (lkG rfl) (lkG rfl) rfl rfl (by simp only[zBb];omega) (by simp only[zBb];omega) rfl rfl ?_)|refine cX ?_ ?_<;>intro hc<;>try simp only[dE] at hc|refine skW ?_|refine rtW ?_)
 all_goals (first|(exfalso;simp at hc;done)|(exfalso;simp at hc;omega)|(exfalso;omega)|skip)
 exact⟨.inr rfl,.sla 6 1 0 (E.length+1) 1,[o0,o1,o2,o3,o4,.dead,.arr 1 1 (E++[eI x])],⟨1,rfl,rfl⟩,rfl,by simp,hok,rfl,rfl⟩
theorem Ku {E:List (List AV)} (hE:∀e∈E,∃c:Int,e=eI c) (hl:E.length≤1000) {i:Nat} (hi:i<E.length) (x:Int) {o0 o1 o2 o3 o4:bc} (ho:∀o∈[o0,o1,o2,o3,o4],OkA o) :
 TCall Tryz.prog 239 [.sla 6 1 0 E.length 0,.int i,.sla 5 1 0 1 1] [o0,o1,o2,o3,o4,.arr 1 1 [eI x],.arr 1 0 (E++[[.any]])] (fun r s=>∃ver,r=.sla 6 1 0 (E.length+1) ver∧s=[o0,o1,o2,o3,o4,.dead,.arr 1 ver (E.take i++eI x::E.drop i)]):=by
 have hok:=Cp ho (AX hE i x) 0;have hxe:∀e∈[eI x],∃c:Int,e=eI c:=fun e he=>⟨x,zA9.1 he⟩
 have hEx:(E++[[AV.any]]).length=E.length+1:=sMp;obtain⟨E2,hE2⟩:∃E2,E2=(E++[[AV.any]]).take (i+1)++(((E++[[AV.any]]).drop i).take (E.length - i)++(E++[[AV.any]]).drop (i+1+(E.length - i))):=⟨_,rfl⟩
 have e2l:E2.length=E.length+1:=by
  rw[hE2];simp only[lLa,zAn,zB0,hEx];omega
 have e2:E2.take i++(([eI x].drop 0).take 1++E2.drop (i+1))=E.take i++eI x::E.drop i:=by
  rw[hE2];have h1:(E++[[AV.any]]).take (i+1)=E.take (i+1):=zBm oM;have h2:((E++[[AV.any]]).drop i).take (E.length - i)=E.drop i:=by
   rw[zDg oM,zBm (by rw[zB0];omega),zAh (by rw[zB0];omega)]
  have h3:(E++[[AV.any]]).drop (i+1+(E.length - i))=[]:=zBh oM;have hlt:(E.take (i+1)).length=i+1:=by rw[zAn];omega
  rw[h1,h2,h3,zCm];have a1:(E.take (i+1)++E.drop i).take i=E.take i:=by rw[zBm oM,List.take_take,zDr oM]
  have a2:(E.take (i+1)++E.drop i).drop (i+1)=E.drop i:=by rw[zDg oM,List.drop_of_length_le oM,zE1]
  rw[a1,a2];rfl
 have hov:Extern.find Tryz.f280=some (Extern.SlicesOverlaps.overlaps #[75,75] #[4]):=by kernel_rfl
 refine TCall.body Tryz.func239 rfl rfl Tryz.ntmps239 rfl rfl ?_
 repeat' (first|refine qP ?_ (h:=fun hg=>by first|exact PRun.kn ab i i (E.length - i) rfl rfl nd rfl oM nd rfl rfl oM oM rfl|exact aa|exact PRun.j8 ab rfl rfl nd rfl|exact af|fail)|apply sqW|refine rgK fun U V=>?_|(refine aN V ?_;clear V U)|refine aoE (EStep.LB ab rfl rfl rfl dCd (Rd.w rfl tI) oM rfl (lkG rfl) ?_)|refine cX ?_ ?_<;>intro hc<;>try simp only[dE] at hc|refine skW ?_|refine rtW ?_)
 all_goals (first|(exfalso;simp at hc;done)|(exfalso;simp at hc;omega)|(exfalso;omega)|skip)
 intro m
 repeat' (first|refine qP ?_ (h:=fun hg=>by first|exact PRun.Ci ab (f:=280) (fn:=Tryz.f280) Tryz.func280 rfl rfl (by kernel_rfl) hov rfl (Rd.w rfl tI) rfl (Rd.w rfl tI) rfl (zBz _) (zBz _) (Rd.w rfl tI) rfl oM oM dCd|exact PRun.kn ab (i+1) (i+1) (E.length - i) rfl rfl nd rfl oM nd rfl rfl oM oM oM|exact PRun.Gi ab (E.length+1) rfl rfl nd rfl oM nd rfl rfl oM oM oM|exact aa|exact af|fail)|apply sqW|refine rgK fun U V=>?_|(refine aN V ?_;clear V U)|refine cX ?_ ?_<;>intro hc<;>try simp only[dE] at hc|refine skW ?_)
 all_goals (first|(exfalso;simp at hc;done)|(exfalso;simp at hc;omega)|(exfalso;omega)|skip)
 refine AWP.Kg (yo [77]) (fun j=>match j with|0=>[o0,o1,o2,o3,o4,.arr 1 1 [eI x],.arr 1 0 (E++[[.any]])]|_=>[o0,o1,o2,o3,o4,.arr 1 1 [eI x],.arr 1 0 E2]) rfl (by kernel_rfl) dKn rfl dKn (fun U V=>?_)
 repeat' (first
  |refine yt (h:=by refine⟨?_,?_,?_,?_⟩<;>intro hh hg<;>first|exact absurd hh dKn|exact PRun.kn ab i i (E.length+1 - i) rfl rfl nd rfl oM nd rfl rfl oM oM rfl|exact PRun.kn ab (i+1) (i+1) (E.length - i) rfl rfl nd rfl oM nd rfl rfl oM oM oM|exact aa|exact af|fail) (hk:=?_)|fail)
 refine YQ.e (v:=.int ((E.length - i:Nat):Int)) (d:=some 77) rfl rfl rfl ?_ ?_
 · intro aw he;exact EStep.Ee ab (E.length - i) (l:=6) (l':=6) rfl rfl rfl (Rd.w ((ai (he 73 dKn)).trans rfl) (by rw[aj (he 73 dKn)];first|exact tI|exact rfl)) rfl (Rd.w ((ai (he 76 dKn)).trans rfl) (by rw[aj (he 76 dKn)];first|exact tI|exact rfl)) rfl (fun y hy=>Co hE y (by
    rw[zDg oM,zBm (by rw[zB0];exact nLr _)] at hy;exact zC9 (zC0 hy))) (lkG rfl) (lkG rfl) rfl (by simp only[Nat.min_def];split<;>omega) oM oM oM hE2 ⟨rfl,rfl⟩
 repeat' (first
  |refine yt (hk:=?_)|fail)
 refine YQ.nil (V _ _ ?_);clear V U
 repeat' (first|refine qP ?_ (h:=fun hg=>by first|exact PRun.kn ab i i (E.length+1 - i) rfl rfl nd rfl oM nd rfl rfl oM oM rfl|exact aa|exact af|fail)|apply sqW|refine rgK fun U V=>?_|(refine aN V ?_;clear V U)|refine aoE (EStep.Ee ab 1 (l:=6) (l':=5) rfl rfl rfl (Rd.w rfl tI) rfl (Rd.w rfl tI) rfl (fun y hy=>Co hxe y (zC9 (zC0 hy))) (lkG rfl) (lkG rfl) rfl (by simp only[Nat.min_def];split<;>omega) oM oM (nLr _) rfl ?_))
 refine AWP.gM (d:=2) (l:=5) (es:=[eI x]) rfl rfl (oU hxe) ?_;refine rtW ⟨.inr rfl,.sla 6 1 0 (E.length+1) 0,[o0,o1,o2,o3,o4,.dead,.arr 1 0 (E.take i++eI x::E.drop i)],⟨0,rfl,rfl⟩,?_,by simp,hok,rfl,rfl⟩;show[o0,o1,o2,o3,o4,.dead,.arr 1 0 (E2.take i++(([eI x].drop 0).take 1++E2.drop (i+1)))]=_;rw[e2]
theorem G3 {l:List Int} (hne:l≠[]) (hl:l.length≤1000) {i:Nat} (hi:i≤l.length) (x:Int) {o0 o1 o2 o3 o4:bc} (ho:∀o∈[o0,o1,o2,o3,o4],OkA o) :
 TCall Tryz.prog 239 [.sla 6 1 0 l.length 0,.int i,.sla 5 1 0 1 1] [o0,o1,o2,o3,o4,.arr 1 1 [eI x],.arr 1 0 (l.map eI)] (fun r s=>r=.sl 1 ((l.take i++x::l.drop i).map eI) .no∧s=[o0,o1,o2,o3,o4,.dead,.dead]):=by
 have hE:∀e∈l.map eI,∃c:Int,e=eI c:=fun e he=>by
  obtain⟨c,_,rfl⟩:=zAq.1 he;exact⟨c,rfl⟩
 have hll:(l.map eI).length=l.length:=sMp;have cK:0<l.length:=zDd.2 hne;have hmap:(l.take i++x::l.drop i).map eI=(l.map eI).take i++eI x::(l.map eI).drop i:=by simp[List.map_take,List.map_drop]
 have hml:((l.take i++x::l.drop i).map eI).length=l.length+1:=by simp;omega
 refine TCall.frz (l:=6) (es:=(l.take i++x::l.drop i).map eI) (τ:=fun ver=>[o0,o1,o2,o3,o4,.dead,.arr 1 ver ((l.take i++x::l.drop i).map eI)]) ?_ (fun _=>rfl) (fun _=>rfl) (by rw[hmap];exact oU (AX hE i x));rw[hml];rcases nLg i l.length with hlt|hge
 · have hB:=Ku hE oM (i:=i) oM x ho;rw[hll,←hmap] at hB;unfold TCall at hB ⊢;refine⟨hB.1,fun G w vs hs ha=>?_⟩;obtain⟨ob,cap,hGB,hne',hob⟩:=cR hs (l:=6) rfl;obtain⟨b,rfl⟩:=hne' (by simpa using hne);obtain⟨c,T',fr,hb,hf,hlc,hn,hz,bU,hmm⟩:=hob b rfl;rw[hll] at hn;rw[zCb] at hlc;by_cases hr:l.length<cap
   · exact hB.2 G w vs (hs.room (l:=6) rfl hGB (by rw[hll];exact hr)) ha
   · have nY:cap=l.length:=oM;obtain⟨ha1,ha2⟩:=ha;obtain⟨v0,v1,v2,rfl⟩:∃v0 v1 v2,vs=#[v0,v1,v2]:=by
      simp at ha1;exact⟨vs[0]'oM,vs[1]'oM,vs[2]'oM,Array.ext (by simp[ha1]) fun i h1 h2=>by
       have:i=0∨i=1∨i=2:=by simp at h2;omega
       rcases this with rfl|rfl|rfl<;>rfl⟩
     have r0:ag G.M G.B (.sla 6 1 0 l.length 0) v0:=by simpa using ha2 0 _ rfl
     have r1:ag G.M G.B (.int i) v1:=by simpa using ha2 1 _ rfl
     have r2:ag G.M G.B (.sla 5 1 0 1 1) v2:=by simpa using ha2 2 _ rfl
     obtain⟨q,hq⟩:∃q,l.length=q+1:=⟨l.length - 1,oM⟩
     have e0:v0=.slice (some ⟨b,0,none⟩) l.length cap:=by
      rw[hq] at r0 ⊢;exact At.val (len:=q+1) hGB r0
     have e1:v1=.int .i64 i:=ag.aJ r1;obtain⟨vb,vcap,vc,vT,vfr,vcx,k1,k2,k3,k4,e2⟩:=sC hs (l:=5) rfl r2 oM (zBz _);subst e0;subst e1;subst e2;have fc:∀j,j<l.length→c[j]? = some (.int .i64 (l.getD j 0)):=fun j hj=>by
      have h1:=bU j 0 (eI (l.getD j 0)) (.int (l.getD j 0)) (by rw[zA5,zB2,zA1 hj];rfl) rfl;have h2:=ag.aJ h1;have h3:j<c.size:=oM;rw[zCb,zBq,zA2,zAk h3] at h2;rw[zAk h3,show c[j]=_ from h2]
     have Kv:vc[0]? = some (.int .i64 x):=by
      obtain⟨ob4,cap4,G6,_,hob4⟩:=cR hs (l:=5) rfl;rw[k1] at G6;simp at G6;obtain⟨rfl,rfl⟩:=G6;obtain⟨c4,T4,fr4,hb4,_,_,_,_,LY,_⟩:=hob4 vb rfl;rw[k2] at hb4;simp at hb4;obtain⟨rfl,rfl,rfl⟩:=hb4;have h2:=ag.aJ (LY 0 0 (eI x) (.int x) rfl rfl);have h3:0<vc.size:=by have:=k4;simp only[zBb] at this;omega
      rw[zA2,zAk h3] at h2;rw[zAk h3,show vc[0]=_ from h2]
     have K:=Any2.slices_Insert_int_grow Tryz.insI b 0 l.length cap i vb 0 1 vcx (l.map (Value.int .i64)) [.int .i64 x] w hlt oM oM oM oM sMp rfl
      (fun j v hj=>by
       rw[zA5] at hj;have hjl:j<l.length:=by
        rcases nLg j l.length with h|h
        · exact h
        · rw[zA3 h] at hj;cases hj
       rw[zA1 hjl] at hj;cases hj;have:=fc j hjl;rw[zB2,zA1 hjl] at this;simp only[World.cell?,hb,zBv];exact this)
      (fun j v hj=>by
       have:j=0:=by
        have:=(zAb.1 hj).1;simp at this;exact this
       subst this;cases hj;simp only[World.cell?,k2,zBv];exact Kv)
      (fun v hv=>by obtain⟨z,_,rfl⟩:=zAq.1 hv;rfl) (fun v hv=>by rw[zA9.1 hv];rfl)
     have hBl:G.B.length=7:=hs.len;obtain⟨GC,hGC⟩:∃GC,grownCap w (l.length+1) cap (Tryz.ow.t 3)=GC:=⟨_,rfl⟩
     have hge:l.length+1≤GC:=hGC▸grownCap_ge w (l.length+1) cap (Tryz.ow.t 3);rw[hGC] at K;refine Calls.mono K ?_;rintro e w' ⟨rfl,rfl⟩;obtain⟨M',m1,m2,_⟩:=hs.gM (l:=5) rfl r2 (oU fun e he=>⟨x,zA9.1 he⟩)
     obtain⟨cc,n1,n2,n3⟩:=m2.GX (l:=6) (x:=x) (bh:=l) (i:=i) rfl hGB oM (T:=Tryz.ow.t 3) (row:=((l.map (Value.int .i64)).take i).toArray++Builtin.zeroCells (Value.int .i64 0).cells (l.length+1 - i)++Builtin.zeroCells (Value.int .i64 0).cells (GC - (l.length+1)))
      (by simp[Builtin.zeroCells,Value.cells];omega) (fun j hj=>by
       rw[zA2,zBs,zAl (by simp;omega)];simp[zAw,hj,zB2,zA1 (show j<l.length by omega)])
     have hcc:cc=GC:=by rw[n2];simp[Builtin.zeroCells,Value.cells];omega
     refine⟨_,.sla 6 1 0 (l.length+1) 1,_,_,rfl,⟨1,rfl,rfl⟩,?_,n1,?_⟩
     · exact(Gh.Le.upM m1).trans (.upB (BLe.set hGB n3))
     · refine .sla 6 1 0 (l.length+1) 1 (some ⟨w.heap.size,0,none⟩) _ ⟨some w.heap.size,cc,1,?_,nLr _,fun _=>⟨?_,.inr ⟨?_,rfl⟩⟩⟩
       · exact zAf (show 6<G.B.length by omega)
       · show 0+(l.length+1)≤cc;omega
       · show _=cc;omega
 · obtain rfl:i=l.length:=oM;have hA:=Kt hE (by simpa using hne) oM x ho;rw[hll] at hA;have e:(l.take l.length++x::l.drop l.length).map eI=l.map eI++[eI x]:=sMp;rw[e];exact hA
theorem EZ (x:Int) {o0 o1 o2 o3 o4:bc} (ho:∀o∈[o0,o1,o2,o3,o4],OkA o) :
 TCall Tryz.prog 239 [.sl 1 [] .fresh,.int 0,.sla 5 1 0 1 1] [o0,o1,o2,o3,o4,.arr 1 1 [eI x]] (fun r s=>r=.sl 1 [eI x] .no∧s=[o0,o1,o2,o3,o4,.dead,.dead]):=by
 have hxe:∀e∈[eI x],∃c:Int,e=eI c:=fun e he=>⟨x,zA9.1 he⟩
 have hok:=Cp ho hxe 0;refine TCall.frz (l:=6) (es:=[eI x]) (τ:=fun ver=>[o0,o1,o2,o3,o4,.dead,.arr 1 ver [eI x]]) ?_ (fun _=>rfl) (fun _=>rfl) (oU hxe);refine TCall.body Tryz.func239 rfl rfl Tryz.ntmps239 rfl rfl ?_;refine AWP.gM (d:=2) (l:=5) (es:=[eI x]) rfl rfl (oU hxe) ?_
 repeat' (first|refine qP ?_ (h:=fun hg=>by first|exact PRun.w7 (al:=([]:List Int)) (f:=eI) ab rfl rfl nd rfl nd rfl dCd|exact aa|exact af)|apply sqW|refine rgK fun U V=>?_|(refine aN V ?_;clear V U)|refine aoE (EStep.eK ab rfl rfl rfl rfl (Rd.w rfl tI) (Rd.w rfl tI) (.sl rfl (Co hxe)) (lkG rfl) (lkG rfl) rfl rfl (by simp only[zBb];omega) (by simp only[zBb];omega) ?_)|refine cX ?_ ?_<;>intro hc<;>try simp only[dE] at hc|refine skW ?_|refine rtW ?_)
 all_goals (first|(exfalso;simp at hc;done)|(exfalso;simp at hc;omega)|(exfalso;omega)|skip)
 exact⟨.inr rfl,.sla 6 1 0 1 0,[o0,o1,o2,o3,o4,.dead,.arr 1 0 [eI x]],⟨0,rfl,rfl⟩,rfl,by simp,hok,rfl,rfl⟩
end Go.Proofs.YthiaimakjmhegaaGreatDoor.De
