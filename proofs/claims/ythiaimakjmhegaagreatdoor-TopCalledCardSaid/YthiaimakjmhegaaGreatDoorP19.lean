/- Parts of the proof. No statement is proved here. -/
import Derived.Test.YthiaimakjmhegaaGreatDoorP16
import Derived.Test.YthiaimakjmhegaaGreatDoorP17
import Derived.Test.YthiaimakjmhegaaGreatDoorP18
set_option linter.unusedVariables false
set_option linter.unusedSimpArgs false
set_option maxHeartbeats 16000000
set_option maxRecDepth 20000
namespace Go.Ab
theorem MF {ops:Array Oper} {o:Oper} {env:Env} {j d:Nat} {want t:Bool} (h1:o.guard=some (j,want)) (h2:(ops[j]?).bind (·.dst)=some d) (h3:env d=.prim (.bool t)):gOf ops env o=some (.yes (t==want)):=by
 simp[gOf,h1,h2,h3]
theorem ex10 {σ:ae} (h:σ.length=10):σ=[σ.getD 0 .dead,σ.getD 1 .dead,σ.getD 2 .dead,σ.getD 3 .dead,σ.getD 4 .dead,σ.getD 5 .dead,σ.getD 6 .dead,σ.getD 7 .dead,σ.getD 8 .dead,σ.getD 9 .dead]:=by
 match σ,h with
 |[a,b,c,d,e,f,g,h,i,j],_=>rfl
end Go.Ab
namespace Go.Proofs.YthiaimakjmhegaaGreatDoor.Pl
open Go.Ab Go.Pl
attribute [local irreducible] AWP AOps EStep AQ PStep PRun PCall TCall VCall
theorem Em (r:bV) (bar:Int):PCall Tryz.prog 302 [.agg (ba r),.iptr [.int bar]] (.b (r.from_==bar)):=by
 refine PCall.body Tryz.func302 rfl rfl Tryz.ntmps302 rfl rfl ?_
 repeat' (first|refine qS ?_|apply sqW|refine rgK fun U V=>?_|(refine aN V ?_;clear V U)|refine aB ?_|refine rtW ?_)
 exact⟨.inr rfl,Ent.b rfl⟩
theorem qc {l:List bV} {bar:Int} (h:dW l bar=none):az (fun r:bV=>r.from_==bar) l = -1:=by
 refine bX fun j hj=>?_
 unfold dW at h;rw[List.find?_eq_none] at h;have:=h _ (bD hj);simpa using this
theorem qd {l:List bV} {bar:Int} {r:bV} (h:dW l bar=some r):∃k:Nat,k<l.length∧l.getD k default=r∧az (fun r:bV=>r.from_==bar) l=k∧r.from_=bar:=by
 unfold dW at h;rw[List.find?_eq_some_iff_getElem] at h;obtain⟨h1,k,hk,h2,h3⟩:=h;refine⟨k,hk,by rw[fO hk];exact h2,bP hk (by rw[fO hk,h2];exact h1) fun j hj=>?_,by simpa using h1⟩;have:=h3 j hj;rw[fO oM];simpa using this
abbrev s10 (s:ae):ae:=[s.getD 0 .dead,s.getD 1 .dead,s.getD 2 .dead,s.getD 3 .dead,s.getD 4 .dead,s.getD 5 .dead,s.getD 6 .dead,s.getD 7 .dead,s.getD 8 .dead,s.getD 9 .dead]
abbrev yf (s:ae) (ver:Nat) (bar:Int):ae:=[s.getD 0 .dead,s.getD 1 .dead,s.getD 2 .dead,s.getD 3 .dead,s.getD 4 .dead,s.getD 5 .dead,s.getD 6 .dead,s.getD 7 .dead,s.getD 8 .dead,s.getD 9 .dead,.arr 1 ver [[.int bar]]]
abbrev yg (s:ae) (ver:Nat) (bar:Int) (r:bV):ae:=[s.getD 0 .dead,s.getD 1 .dead,s.getD 2 .dead,s.getD 3 .dead,s.getD 4 .dead,s.getD 5 .dead,s.getD 6 .dead,s.getD 7 .dead,s.getD 8 .dead,s.getD 9 .dead,.arr 1 ver [[.int bar]],.var (ba r)]
abbrev yI (l:List Int):List (List AV):=l.map fun i=>[.int i]
theorem vB {l rest:List Int} {j:Nat} {b:Int} (h:l.drop j=b::rest):j<l.length∧l[j]? = some b∧l.drop (j+1)=rest:=by
 have hj:j<l.length:=by
  rcases nLg j l.length with h1|h1
  · exact h1
  · rw[zBh h1] at h;cases h
 rw[zBj hj] at h;injection h with h1 h2;exact⟨hj,by rw[zA1 hj,h1],h2⟩
structure FOk (f:aG):Prop where
 bars:f.bars≤4000
 ar:∀r∈f.ar,0≤r.from_∧r.from_<r.ak∧r.ak≤f.bars∧1≤r.times∧r.times≤9
theorem En {yv:AV} {xs:List (List AV)} {S:Nat→ae} {Pj:Nat→Prop} {R:Nat→ae→Prop} {L:Nat} (hS:∀j,j≤xs.length→(S j).length=L∧(S j).all (aD L)=true) (hR:∀j s,R j s→s.length=L∧s.all (aD L)=true)
 (hy:aO L 3 yv=true) (fI:∀j x,xs[j]? = some x→Pj j→VCall Tryz.prog (.opq yv) x (S j) (fun r s=>(r=.b true∧s=S (j+1)∧Pj (j+1))∨(r=.b false∧R j s))) {j:Nat} {b:List AV} (hb:xs[j]? = some b) (ho:b.all (aO L 4)=true) (hP:Pj j) (τ:ae) :
 VCall Tryz.prog (.opq yv) b (S j++τ) (fun r t=>(r=.b true∧t=S (j+1)++τ∧Pj (j+1))∨(r=.b false∧∃t',t=t'++τ∧R j t')):=by
 have hj:j<xs.length:=(zAb.1 hb).1
 have hv:=VCall.frame (fI j b hb hP) τ
  (by rw[(hS _ oM).1];exact(hS _ oM).2) (by rw[(hS _ oM).1];exact hy) (by rw[(hS _ oM).1];exact ho) (by
   rintro rv s' (⟨_,rfl,_⟩|⟨_,hh⟩)
   · rw[(hS _ oM).1,(hS _ oM).1]
   · rw[(hS _ oM).1,(hR _ _ hh).1])
 refine VCall.mono hv ?_;rintro r t ⟨t',rfl,(⟨rfl,rfl,hp⟩|⟨rfl,hh⟩)⟩
 · exact .inl ⟨rfl,rfl,hp⟩
 · exact .inr ⟨rfl,t',rfl,hh⟩
theorem vC (f:aG) (hf:FIn f) (hB:FOk f) (a u:Int) (all:Bool) (ha:0≤a∧a≤4000) (hu:u≤4000) (S:Nat→ae) (Pj:Nat→Prop) :
 ox Tryz.prog 301 [] [.iptr [.int a],.iptr [.int u],.iptr (aP f),.iptr [.b all]] (yI (bu f a u all)) 10 S Pj:=by
 intro yv R hP0 hS hR hyd fI;have hy:=hyd 2;clear hyd;have hy2:=@En yv (yI (bu f a u all)) S Pj R 10 hS hR hy fI;clear fI;have hyo:aO 11 4 (.opq yv)=true:=dt (zCt 10) 3 yv hy;rw[lLm] at *;have hr1:∀r∈f.ar,r.from_<r.ak:=fun r hr=>(hB.ar r hr).2.1
 have hb:=hB.bars;generalize hxs:bu f a u all=xs at *;have ex:∀j,j≤xs.length→S j=s10 (S j):=fun j hj=>ex10 (hS j hj).1
 have hok:∀j,j≤xs.length→(s10 (S j)).all (aD 10)=true:=fun j hj=>by rw[←ex j hj];exact(hS j hj).2
 have yh:∀j,j≤xs.length→∀ver bar,(yf (S j) ver bar).all (aD 11)=true:=fun j hj ver bar=>by
  show(s10 (S j)++[bc.arr 1 ver [[AV.int bar]]]:ae).all (aD 11)=true;rw[zCo,fL (zCt _) (hok j hj)];rfl
 have yi:∀j,j≤xs.length→∀ver bar r,(yg (S j) ver bar r).all (aD 12)=true:=fun j hj ver bar r=>by
  show(yf (S j) ver bar++[bc.var (ba r)]:ae).all (aD 12)=true;rw[zCo,fL (zCt _) (yh j hj ver bar)];rfl
 have hv1:∀j b,xs[j]? = some b→Pj j→∀ver bar,VCall Tryz.prog (.opq yv) [.int b] (yf (S j) ver bar) (fun r t=>(r=.b true∧t=yf (S (j+1)) ver bar∧Pj (j+1))∨(r=.b false∧∃t',t=t'++[.arr 1 ver [[.int bar]]]∧R j t')):=fun j b hjb hp ver bar=>by
  have h:=hy2 (show(yI xs)[j]? = some [.int b] by rw[zA5,hjb];rfl) rfl hp [.arr 1 ver [[.int bar]]];have hj:=(zAb.1 hjb).1;rw[ex j oM,ex (j+1) hj] at h;exact h
 have hv2:∀j b,xs[j]? = some b→Pj j→∀ver bar r0,VCall Tryz.prog (.opq yv) [.int b] (yg (S j) ver bar r0) (fun r t=>(r=.b true∧t=yg (S (j+1)) ver bar r0∧Pj (j+1))∨(r=.b false∧∃t',t=t'++[.arr 1 ver [[.int bar]],.var (ba r0)]∧R j t')):=fun j b hjb hp ver bar r0=>by
  have h:=hy2 (show(yI xs)[j]? = some [.int b] by rw[zA5,hjb];rfl) rfl hp [.arr 1 ver [[.int bar]],.var (ba r0)];have hj:=(zAb.1 hjb).1;rw[ex j oM,ex (j+1) hj] at h;exact h
 have yj:=ex xs.length (nLr _);have hS0:=ex 0 (nZl _);clear hy2 ex hok;show TCall _ _ [.opq yv,.iptr [.int a],.iptr [.int u],.iptr (aP f),.iptr [.b all]] (S 0) _;rw[hS0];clear hS0;refine TCall.body Tryz.func301 rfl rfl Tryz.ntmps301 rfl rfl ?_;refine AWP.xH 1 ?_
 repeat' (first|refine aoE (EStep.pM (l:=10) (sz:=1) ab rfl rfl rfl rfl rfl rfl rfl rfl ?_)|refine qS ?_|apply sqW|refine rgK fun U V=>?_|(refine aN V ?_;clear V U)|refine aoE (EStep.sP (l:=10) ab rfl rfl rfl tI rfl (zBz _) rfl tI rfl rfl rfl rfl rfl rfl ?_)|refine blK ?_)
 refine lpD (ι:=Nat×Nat×Int) (fun q=>[(0,.opq yv),(2,.iptr [.int u]),(3,.iptr (aP f)),(4,.iptr [.b all]),(6,.cm 10 1 0 0 q.1)]) (fun q=>yf (S q.2.1) q.1 q.2.2)
  (fun q=>q.2.1≤xs.length∧Pj q.2.1∧(0≤q.2.2∧q.2.2≤4000)∧xs.drop q.2.1=bu f q.2.2 u all) (fun q=>(u - q.2.2).toNat) 11 (fun _=>rfl) (1,0,a) ⟨nZl _,hP0,ha,by rw[hxs];rfl⟩ ⟨rfl,rfl,rfl,rfl,rfl,tI⟩ rfl (fun q _=>by
   simp only[zB4,zBg,zCf,zA0];exact⟨hyo,rfl,rfl,rfl,rfl⟩) (fun q hq=>yh _ hq.1 _ _) ?_
 rintro⟨ver,j,bar⟩ ⟨hj,hPj,dv,hdr⟩;dsimp only at hj hPj dv hdr ⊢;by_cases hlt:bar<u
 · have hix:=vz f.ar (.fn (.func 302) [] [.iptr [.int bar]]) (fun r=>r.from_==bar) (fun x _=>⟨_,[],_,rfl,Em x bar⟩) hf.ar;cases hs:dW f.ar bar with
   | none =>
     rw[qc hs] at hix;rw[rW hr1 hlt all hs] at hdr;obtain⟨hj1,hjb,hdr2⟩:=vB hdr;have hv:=hv1 j bar hjb hPj ver bar;clear hv1 hv2 yh yi
     repeat' (first|refine qP ?_ (h:=fun hg=>by first|exact PRun.wF hix rfl rfl nd ⟨bZ.of 1 rfl,bZ.fn1 (bZ.cm rfl (zBz _) rfl),tI⟩ rfl nds|exact aa|exact PRun.mn ab rfl rfl nd rfl (zBz _) rfl rfl rfl|exact af)|apply sqW|refine rgK fun U V=>?_|(refine aN V ?_;clear V U)|refine aS ?_|refine aA ?_|refine aoE (scT (hv) rfl rfl rfl rfl rfl nd rfl rfl nds ?_)|refine cX ?_ ?_<;>intro hc<;>try simp only[dE] at hc|refine blK ?_|refine exW ?_|refine skW ?_)
     all_goals first|(exfalso;omega)|skip
     rintro r t (⟨rfl,rfl,hp⟩|⟨rfl,t',rfl,hh⟩)
     · repeat' (first|refine aoE (EStep.pM (l:=10) (sz:=1) ab rfl rfl rfl rfl rfl rfl rfl rfl ?_)|refine qP ?_ (h:=fun hg=>by first|exact aa|exact PRun.mn ab rfl rfl nd rfl (zBz _) rfl rfl rfl|fail)|apply sqW|refine rgK fun U V=>?_|(refine aN V ?_;clear V U)|refine aoE (EStep.sP (l:=10) ab rfl rfl rfl tI rfl (zBz _) rfl tI rfl rfl rfl rfl rfl rfl ?_)|refine cX ?_ ?_<;>intro hc<;>try simp only[dE] at hc|refine exW ?_|refine skW ?_|refine rtW ?_)
       · exfalso;simp at hc
       · exact⟨(ver+1,j+1,bar+1),⟨hj1,hp,⟨show 0≤bar+1 by omega,show bar+1≤4000 by omega⟩,hdr2⟩,by show(u - (bar+1)).toNat<(u - bar).toNat;omega,⟨rfl,rfl,rfl,rfl,rfl,tI⟩,rfl⟩
     · repeat' (first|refine qS ?_|apply sqW|refine rgK fun U V=>?_|(refine aN V ?_;clear V U)|refine cX ?_ ?_<;>intro hc<;>try simp only[dE] at hc|refine exW ?_|refine skW ?_|refine rtW ?_)
       · obtain⟨k1,k2⟩:=hR _ _ hh;exact⟨.inr rfl,.tup [],t',.inr ⟨_,hj1,hh⟩,by simp,by rw[k1];exact nLr _,by rw[k1];exact k2,rfl,rfl⟩
       · exfalso;simp at hc
   | some r =>
     obtain⟨k,hk,hkr,hfi,hfr⟩:=qd hs;rw[hfi] at hix;rw[rX hr1 hlt all hs] at hdr;have hrb:=hB.ar r (zBi hs);have hkl:=hf.ar;clear hv1
     repeat' (first|refine qP ?_ (h:=fun hg=>by first|exact iX ba f.ar ((k:Nat):Int) hkr (hb:=oM)|exact PRun.wF hix rfl rfl nd ⟨bZ.of 1 rfl,bZ.fn1 (bZ.cm rfl (zBz _) rfl),tI⟩ rfl nds|exact aa|exact PRun.mn ab rfl rfl nd rfl (zBz _) rfl rfl rfl|fail)|apply sqW|refine rgK fun U V=>?_|(refine aN V ?_;clear V U)|refine aS ?_|refine aA ?_|refine cX ?_ ?_<;>intro hc<;>try simp only[dE] at hc|refine blK ?_|refine exW ?_|refine skW ?_)
     all_goals (first|(exfalso;omega)|skip)
     all_goals
      refine lpD (ι:=Nat×Int) (fun q=>[(0,.opq yv),(2,.iptr [.int u]),(3,.iptr (aP f)),(4,.iptr [.b all]),(6,.cm 10 1 0 0 ver),(8,.ptr 11 0),(10,.int q.2)]) (fun q=>yg (S q.1) ver bar r)
       (fun q=>q.1≤xs.length∧Pj q.1∧(1≤q.2∧q.2≤r.times+1)∧xs.drop q.1=(gg q.2 (r.times+1)).flatMap (jL f r)++bu f r.ak u all) (fun q=>(r.times+1 - q.2).toNat) 12 (fun _=>rfl) (j,if all then 1 else r.times) ⟨hj,hPj,by dsimp only;split<;>omega,hdr⟩ ⟨rfl,rfl,rfl,rfl,rfl,rfl,by rw[hc];rfl,tI⟩ rfl (fun q _=>by
        simp only[zB4,zBg,zCf,zA0];exact⟨dt (zCt 11) 4 _ hyo,rfl,rfl,rfl,rfl,rfl,rfl⟩) (fun q hq=>yi _ hq.1 _ _ _) ?_
      rintro⟨j1,pass⟩ ⟨hj1,hP1,hps,hd1⟩;dsimp only at hj1 hP1 hps hd1 ⊢;by_cases hlp:pass≤r.times
      · rw[jw oM,List.flatMap_cons,zBo] at hd1
        repeat' (first|refine qS ?_|apply sqW|refine rgK fun U V=>?_|(refine aN V ?_;clear V U)|refine cX ?_ ?_<;>intro hc<;>try simp only[dE] at hc|refine blK ?_|refine exW ?_|refine skW ?_)
        all_goals (first|(exfalso;omega)|skip)
        refine lpD (ι:=Nat×Int) (fun q=>[(0,.opq yv),(2,.iptr [.int u]),(3,.iptr (aP f)),(4,.iptr [.b all]),(6,.cm 10 1 0 0 ver),(8,.ptr 11 0),(10,.int pass),(11,.int q.2)]) (fun q=>yg (S q.1) ver bar r)
         (fun q=>q.1≤xs.length∧Pj q.1∧(r.from_≤q.2∧q.2≤r.ak)∧xs.drop q.1=(gg q.2 r.ak).filter (fun i=>gb f.ends i pass)++((gg (pass+1) (r.times+1)).flatMap (jL f r)++bu f r.ak u all)) (fun q=>(r.ak - q.2).toNat) 12 (fun _=>rfl) (j1,r.from_) ⟨hj1,hP1,⟨zBy _,by dsimp only;omega⟩,hd1⟩ ⟨rfl,rfl,rfl,rfl,rfl,rfl,rfl,rfl,tI⟩ rfl (fun q _=>by
          simp only[zB4,zBg,zCf,zA0];exact⟨dt (zCt 11) 4 _ hyo,rfl,rfl,rfl,rfl,rfl,rfl,rfl⟩) (fun q hq=>yi _ hq.1 _ _ _) ?_
        rintro⟨j2,i⟩ ⟨hj2,hP2,hi,hd2⟩;dsimp only at hj2 hP2 hi hd2 ⊢;by_cases hli:i<r.ak
        · rw[jw hli] at hd2;have hen:=wb f hf i pass;cases hpl:gb f.ends i pass with
          | false =>
            rw[zCz (by rw[hpl];decide)] at hd2;rw[hpl] at hen;clear hv2 yh yi
            repeat' (first|refine qP ?_ (h:=fun hg=>by first|exact aa|exact pc hen|exact(Bool.noConfusion (show false=true from hg):PRun _ _ _ _ (.b false))|fail)|apply sqW|refine rgK fun U V=>?_|(refine aN V ?_;clear V U)|refine cX ?_ ?_<;>intro hc<;>try simp only[dE] at hc|refine blK ?_|refine exW ?_|refine skW ?_|refine rtW ?_)
            all_goals (first|(exfalso;omega)|skip)
            all_goals first|exact⟨(j2,i+1),⟨hj2,hP2,⟨by dsimp only;omega,by dsimp only;omega⟩,hd2⟩,by dsimp only;omega,⟨rfl,rfl,rfl,rfl,rfl,rfl,rfl,rfl,tI⟩,rfl⟩|(exfalso;cases hc;done)|(exfalso;simp at hc;done)
          | true =>
            rw[zCy (by exact hpl),zDe] at hd2;rw[hpl] at hen;obtain⟨hj3,hjb,hd3⟩:=vB hd2;have hv:=hv2 j2 i hjb hP2 ver bar r;clear hv2 yh yi
            repeat' (first|refine qP ?_ (h:=fun hg=>by first|exact aa|exact pc hen|fail)|apply sqW|refine rgK fun U V=>?_|(refine aN V ?_;clear V U)|refine aoE (EStep.gd (MF rfl rfl rfl) rfl <| scT hv rfl rfl rfl rfl rfl (by exact rfl) rfl rfl (by repeat' (first|exact tI|exact rfl|refine⟨?_,?_⟩)) ?_)|refine cX ?_ ?_<;>intro hc<;>try simp only[dE] at hc|refine blK ?_|refine exW ?_|refine skW ?_)
            all_goals (first|(exfalso;omega)|skip)
            rintro r1 t (⟨rfl,rfl,hp⟩|⟨rfl,t',rfl,hh⟩)
            · repeat' (first|refine qS ?_|refine rgK fun U V=>?_|(refine aN V ?_;clear V U)|refine cX ?_ ?_<;>intro hc<;>try simp only[dE] at hc|refine skW ?_|refine rtW ?_)
              · exfalso;simp at hc
              · exact⟨(j2+1,i+1),⟨hj3,hp,⟨by dsimp only;omega,by dsimp only;omega⟩,hd3⟩,by dsimp only;omega,⟨rfl,rfl,rfl,rfl,rfl,rfl,rfl,rfl,tI⟩,rfl⟩
            · repeat' (first|refine qS ?_|refine rgK fun U V=>?_|(refine aN V ?_;clear V U)|refine cX ?_ ?_<;>intro hc<;>try simp only[dE] at hc|refine skW ?_|refine rtW ?_)
              · obtain⟨k1,k2⟩:=hR _ _ hh;exact⟨.inr rfl,.tup [],t',.inr ⟨_,hj3,hh⟩,by simp,by rw[k1];exact nLr _,by rw[k1];exact k2,rfl,rfl⟩
              · exfalso;simp at hc
        · rw[ka oM] at hd2
          repeat' (first|refine qS ?_|apply sqW|refine rgK fun U V=>?_|(refine aN V ?_;clear V U)|refine cX ?_ ?_<;>intro hc<;>try simp only[dE] at hc|refine blK ?_|refine exW ?_|refine skW ?_)
          all_goals (first|(exfalso;omega)|skip)
          exact⟨(j2,pass+1),⟨hj2,hP2,⟨by dsimp only;omega,by dsimp only;omega⟩,hd2⟩,by dsimp only;omega,⟨rfl,rfl,rfl,rfl,rfl,rfl,rfl,tI⟩,rfl⟩
      · rw[ka oM] at hd1
        repeat' (first|refine aoE (EStep.pM (l:=10) (sz:=1) ab rfl rfl rfl rfl rfl rfl rfl rfl ?_)|refine qP ?_ (h:=fun hg=>by first|exact aa|exact PRun.mn ab rfl rfl nd rfl (zBz _) rfl rfl rfl|fail)|apply sqW|refine rgK fun U V=>?_|(refine aN V ?_;clear V U)|refine aoE (EStep.sP (l:=10) ab rfl rfl rfl tI rfl (zBz _) rfl tI rfl rfl rfl rfl rfl rfl ?_)|refine cX ?_ ?_<;>intro hc<;>try simp only[dE] at hc|refine blK ?_|refine exW ?_|refine skW ?_)
        all_goals (first|(exfalso;omega)|skip)
        have e5:r.ak - 1+1=r.ak:=oM;refine⟨(ver+1,j1,r.ak - 1+1),⟨hj1,hP1,⟨show 0≤r.ak - 1+1 by omega,show r.ak - 1+1≤4000 by omega⟩,?_⟩,?_,⟨rfl,rfl,rfl,rfl,rfl,tI⟩,rfl⟩
        · show xs.drop j1=bu f (r.ak - 1+1) u all;rw[e5];exact hd1
        · show(u - (r.ak - 1+1)).toNat<(u - bar).toNat;omega
 · rw[oy oM] at hdr
   repeat' (first|refine qP ?_ (h:=fun hg=>by first|exact aa|exact PRun.mn ab rfl rfl nd rfl (zBz _) rfl rfl rfl|fail)|apply sqW|refine rgK fun U V=>?_|(refine aN V ?_;clear V U)|refine cX ?_ ?_<;>intro hc<;>try simp only[dE] at hc|refine blK ?_|refine exW ?_|refine skW ?_)
   all_goals (first|(exfalso;omega)|skip)
   have hjl:j=xs.length:=by
    have:=congrArg List.length hdr;rw[zB0] at this;have h0:([]:List Int).length=0:=rfl;omega
   subst hjl;refine⟨.inl rfl,.tup [],S xs.length,.inl ⟨rfl,hPj⟩,?_,?_,?_,rfl,rfl⟩
   · rw[(hS _ (nLr _)).1]
     conv=>rhs;rw[yj]
     rfl
   · rw[(hS _ (nLr _)).1];exact nLr _
   · rw[(hS _ (nLr _)).1];exact(hS _ (nLr _)).2
theorem qe (f:aG) (a u:Int) (all:Bool):PCall Tryz.prog 286 [.agg (aP f),.int a,.int u,.b all] (.fn (.func 301) [] [.iptr [.int a],.iptr [.int u],.iptr (aP f),.iptr [.b all]]):=by
 refine PCall.body Tryz.func286 rfl rfl Tryz.ntmps286 rfl rfl ?_
 repeat' (first|refine qS ?_|apply sqW|refine rgK fun U V=>?_|(refine aN V ?_;clear V U)|refine aB ?_)
 refine AWP.bj 0 rfl rfl ?_;refine AWP.bj 1 rfl rfl ?_;refine AWP.bj 2 rfl rfl ?_;refine AWP.bj 3 rfl rfl ?_;exact rtW ⟨.inr rfl,fun _ _ h=>h⟩
theorem ri (f:aG):PCall Tryz.prog 247 [.agg (aP f)] (.fn (.func 284) [] [.iptr (aP f)]):=by
 refine PCall.body Tryz.func247 rfl rfl Tryz.ntmps247 rfl rfl ?_
 repeat' (first|refine qS ?_|apply sqW|refine rgK fun U V=>?_|(refine aN V ?_;clear V U)|refine aB ?_)
 refine AWP.bj 0 rfl rfl ?_;exact rtW ⟨.inr rfl,fun _ _ h=>h⟩
def dN (l:List Int):List (Int×Int):=l.foldl (fun al b=>ins al b ((lk al b).getD 0+1)) []
theorem oO (l:List Int) (b:Int):dN (l++[b])=ins (dN l) b ((lk (dN l) b).getD 0+1):=by
 unfold dN;rw[zCl];rfl
theorem yk (l:List Int):∀b:Int,(lk (dN l) b).getD 0=(l.count b:Int):=by
 rw[←List.reverse_reverse l];induction l.reverse with
 |nil=>intro b;rfl
 | cons a l ih =>
   intro b;rw[List.reverse_cons,oO,qA,List.count_append,List.count_singleton];by_cases h:a=b
   · subst h;rw[if_pos rfl,zCv,ih a];simp
   · rw[if_neg h,ih b];simp[h]
abbrev visF:AV:=.fn (.func 285) [] [.ptr 6 0,.ptr 4 0]
abbrev gV (yv:AV) (f:aG) (al:List (Int×Int)):ae:=[.var [.opq yv],.map (aT ekI AV.int al),.var [.map 5],.var [visF],.var [.int f.jump.at_,.int f.jump.to,.int f.jump.ch]]
abbrev s4 (s:ae):ae:=[s.getD 0 .dead,s.getD 1 .dead,s.getD 2 .dead,s.getD 3 .dead]
abbrev vSt (s:ae) (yv:AV) (f:aG) (al:List (Int×Int)):ae:=[s.getD 0 .dead,s.getD 1 .dead,s.getD 2 .dead,s.getD 3 .dead,.var [.opq yv],.map (aT ekI AV.int al),.var [.map 5],.var [visF],.var [.int f.jump.at_,.int f.jump.to,.int f.jump.ch]]
def bC (v:cB):List AV:=[.int v.bar,.int v.pass]
abbrev yV (l:List cB):List (List AV):=l.map fun v=>[.agg (bC v)]
theorem yl {yv:AV} (hy:∀d,aO 4 (d+1) yv=true) (f:aG) (al:List (Int×Int)):(gV yv f al).all (aD 9)=true:=by
 have h:aO 9 2 yv=true:=dt (show 4≤9 by decide) 2 yv (hy 1);have h2:(aT ekI AV.int al).all (fun p=>aO 9 3 p.2)=true:=by
  unfold aT;rw[List.all_map,zA4];intro p _;rfl
 simp only[zB4,zBg,zCf,zA0];refine⟨?_,?_,rfl,rfl,rfl⟩
 · show aO 9 2 yv&&true=true;rw[h];rfl
 · simp[aD,aT,aO]
theorem ex4 {σ:ae} (h:σ.length=4):σ=s4 σ:=by
 match σ,h with
 |[a,b,c,d],_=>rfl
theorem okSt {yv:AV} (hy:∀d,aO 4 (d+1) yv=true) {s:ae} (hs:s.length=4) (hok:s.all (aD 4)=true) (f:aG) (al:List (Int×Int)):(vSt s yv f al).all (aD 9)=true:=by
 show(s4 s++gV yv f al:ae).all (aD 9)=true;rw[←ex4 hs,zCo,yl hy f al,fL (show 4≤9 by decide) hok];rfl
theorem oG {yv:AV} (hy:∀d,aO 4 (d+1) yv=true) {f:aG} {al:List (Int×Int)} {b c:Int} {s s2:ae} {P2:Prop} {R:ae→Prop} (hc0:(lk al b).getD 0+1=c) (hcb:0≤c∧c≤1000000000)
 (hv:VCall Tryz.prog (.opq yv) [.agg [.int b,.int c]] (vSt s yv f (ins al b c)) (fun r t=>(r=.b true∧t=vSt s2 yv f (ins al b c)∧P2)∨(r=.b false∧∃t',t=t'++gV yv f (ins al b c)∧R t')))
 (hR:∀s,R s→s.length=4∧s.all (aD 4)=true) (hs2:s2.length=4∧s2.all (aD 4)=true) :
 TCall Tryz.prog 285 [.int b,.ptr 6 0,.ptr 4 0] (vSt s yv f al) (fun r t=>(r=.b true∧t=vSt s2 yv f (ins al b c)∧P2)∨(r=.b false∧∃t',t=t'++gV yv f (ins al b c)∧R t')):=by
 have hc1:(lk (ins al b c) b).getD 0=c:=by rw[qA,if_pos rfl];rfl
 subst hc0;refine TCall.body Tryz.func285 rfl rfl Tryz.ntmps285 rfl rfl ?_;have hv':VCall Tryz.prog (.opq yv) [.agg [.int b,.int ((lk (ins al b ((lk al b).getD 0+1)) b).getD 0)]] (vSt s yv f (ins al b ((lk al b).getD 0+1))) (fun r t=>(r=.b true∧t=vSt s2 yv f (ins al b ((lk al b).getD 0+1))∧P2)∨(r=.b false∧∃t',t=t'++gV yv f (ins al b ((lk al b).getD 0+1))∧R t')):=by rw[hc1];exact hv
 repeat' (first|refine qP ?_ (h:=fun hg=>by first|exact aa|exact PRun.lookup (ek:=ekI) (ev:=AV.int) (zv:=0) (aL (lkG rfl)) (lkG rfl) (lkG rfl) rfl rfl (Rd.w rfl nd) (Or.inr ⟨_,rfl,rfl⟩) (Rd.w rfl nd) rfl|exact pbD ab rfl rfl nds|exact af)|apply sqW|refine rgK fun U V=>?_|(refine aN V ?_;clear V U)|refine aoE (scT (hv') rfl rfl rfl rfl rfl nd rfl rfl nds ?_)|refine aoE (EStep.fu (ek:=ekI) (ev:=AV.int) (v:=(lk al b).getD 0+1) (aL (lkG rfl)) (lkG rfl) rfl rfl rfl (Rd.w rfl tI) rfl (Rd.w rfl tI) rfl (Rd.w rfl tI) ?_))
 rintro r t (⟨rfl,rfl,hp⟩|⟨rfl,t',rfl,hh⟩)
 · repeat' (first|refine qS ?_|(refine aN V ?_;clear V U)|refine rtW ?_)
   exact⟨.inr rfl,_,_,.inl ⟨rfl,rfl,hp⟩,rfl,nLr _,okSt hy hs2.1 hs2.2 f _,rfl,rfl⟩
 · repeat' (first|refine qS ?_|(refine aN V ?_;clear V U)|refine rtW ?_)
   obtain⟨k1,k2⟩:=hR _ hh;refine⟨.inr rfl,.b false,t'++gV yv f (ins al b ((lk al b).getD 0+1)),.inr ⟨rfl,t',rfl,hh⟩,?_,?_,?_,rfl,rfl⟩
   · rw[zAh (nLr _)]
   · rw[lLa,k1];exact nLr _
   · rw[show(t'++gV yv f (ins al b ((lk al b).getD 0+1))).length=9 by rw[lLa,k1];rfl,zCo,fL (show 4≤9 by decide) k2,yl hy f _];rfl
theorem Eo (f:aG):aK f=(bu f 0 (if f.jump.at_=0 then f.bars else f.jump.at_) true)++bu f f.jump.to f.jump.ch false:=by
 unfold aK;split<;>rfl
theorem Ja (l:List Int) {j:Nat} {b:Int} (h:l[j]? = some b):(cj l)[j]? = some ⟨b,((l.take j).count b:Int)+1⟩∧dN (l.take (j+1))=ins (dN (l.take j)) b (((l.take j).count b:Int)+1):=by
 have hj:=(zAb.1 h).1;have hb:l[j]=b:=(zAb.1 h).2;have e1:l.take (j+1)=l.take j++[b]:=by rw[zC8,h];rfl
 constructor
 · unfold cj;rw[zA5,List.getElem?_range hj];show some (cB.mk (l.getD j 0) ((l.take (j+1)).count (l.getD j 0):Int))=_;rw[show l.getD j 0=b by simp[List.getD,h],e1,List.count_append,List.count_singleton_self];rfl
 · rw[e1,oO,yk]
theorem rj (f:aG) (hf:FIn f) (hB:FOk f) (hJ:0≤f.jump.at_∧0≤f.jump.to∧f.jump.at_≤4000∧f.jump.to≤4000∧f.jump.ch≤4000) (hl:(aK f).length≤1000000) (S:Nat→ae) (Pj:Nat→Prop) :
 ox Tryz.prog 284 [] [.iptr (aP f)] (yV (cj (aK f))) 4 S Pj:=by
 intro yv R hP0 hS hR hy fI;have hvl:(yV (cj (aK f))).length=(aK f).length:=by unfold cj;simp
 have hy2:=@En yv (yV (cj (aK f))) S Pj R 4 hS hR (hy 2) fI;clear fI;rw[hvl] at hS ⊢;have B0:=hB.bars;have hw:=Eo f;generalize hu:(if f.jump.at_=0 then f.bars else f.jump.at_)=u at hw;have hu4:u≤4000:=by rw[←hu];split<;>omega
 -- one visit, over what the iterator has of its own
 have B3:∀j b,(aK f)[j]? = some b→Pj j→TCall Tryz.prog 285 [.int b,.ptr 6 0,.ptr 4 0] (vSt (S j) yv f (dN ((aK f).take j))) (fun r t=>(r=.b true∧t=vSt (S (j+1)) yv f (dN ((aK f).take (j+1)))∧Pj (j+1))∨(r=.b false∧∃t',t=t'++gV yv f (dN ((aK f).take (j+1)))∧R j t')):=fun j b hjb hp=>by
  have hj:=(zAb.1 hjb).1;obtain⟨e1,e2⟩:=Ja (aK f) hjb;rw[e2];have hcl:((aK f).take j).count b≤(aK f).length:=zC2 (List.count_le_length ..) (by rw[zAn];omega);refine oG (c:=(((aK f).take j).count b:Int)+1) (P2:=Pj (j+1)) (R:=R j) hy (by rw[yk]) ⟨oM,oM⟩ ?_ (hR j) (hS (j+1) hj);have h:=hy2 (show(yV (cj (aK f)))[j]? = some [.agg [.int b,.int ((((aK f).take j).count b:Int)+1)]] by rw[zA5,e1];rfl) rfl hp (gV yv f (ins (dN ((aK f).take j)) b ((((aK f).take j).count b:Int)+1)));have x1:=ex4 (hS j oM).1;have x2:=ex4 (hS (j+1) hj).1;rw[x1,x2] at h;exact h
 have hok:∀j,j≤(aK f).length→∀al,(vSt (S j) yv f al).length=9∧(vSt (S j) yv f al).all (aD 9)=true:=fun j hj al=>⟨rfl,okSt hy (hS j hj).1 (hS j hj).2 f al⟩
 have hRok:∀(j:Nat) (x:Exit) (s:ae),(x=.ret∧∃t' al,s=t'++gV yv f al∧R j t')→s.length=9∧s.all (aD 9)=true:=by
  rintro j x s ⟨_,t',al,rfl,hh⟩;obtain⟨k1,k2⟩:=hR _ _ hh;exact⟨by rw[lLa,k1];rfl,by rw[zCo,fL (show 4≤9 by decide) k2,yl hy f _];rfl⟩
 have hS0:=ex4 (hS 0 (nZl _)).1;have yj:=ex4 (hS (aK f).length (nLr _)).1;have b1:=qe f 0 f.bars true;have b3:=qe f 0 f.jump.at_ true;have b2:=qe f f.jump.to f.jump.ch false;clear hy2;have hl1:(bu f 0 u true).length+(bu f f.jump.to f.jump.ch false).length=(aK f).length:=by rw[hw,lLa]
 have hg1:∀j b,(bu f 0 u true)[j]? = some b→(aK f)[j]? = some b:=fun j b h=>by
  rw[hw,zA8 (zAb.1 h).1];exact h
 have hg2:∀j b,(bu f f.jump.to f.jump.ch false)[j]? = some b→(aK f)[(bu f 0 u true).length+j]? = some b:=fun j b h=>by
  rw[hw,zA7 (Nat.le_add_right _ _),zCj];exact h
 have Gn:∀(rc:Loop) (u':Int),u'=u→ox Tryz.prog 301 [] [.iptr [.int 0],.iptr [.int u'],.iptr (aP f),.iptr [.b true]] (yI (bu f 0 u true)) 10 (fun j=>vSt (S j) yv f (dN ((aK f).take j))++[.loop rc [(4,.ptr 7 0)]]) Pj:=fun rc u' e=>e▸vC f hf hB 0 u' true ⟨oM,oM⟩ (e▸hu4) _ _
 have Gp:∀rc:Loop,ox Tryz.prog 301 [] [.iptr [.int f.jump.to],.iptr [.int f.jump.ch],.iptr (aP f),.iptr [.b false]] (yI (bu f f.jump.to f.jump.ch false)) 10 (fun j=>vSt (S ((bu f 0 u true).length+j)) yv f (dN ((aK f).take ((bu f 0 u true).length+j)))++[.loop rc [(4,.ptr 7 0)]]) (fun j=>Pj ((bu f 0 u true).length+j)):=fun rc=>vC f hf hB f.jump.to f.jump.ch false ⟨oM,oM⟩ oM _ _
 have hwl:aK f=aK f:=rfl;generalize hn1:bu f 0 u true=l1 at *;generalize hn2:bu f f.jump.to f.jump.ch false=l2 at *;generalize hww:aK f=W at *;show TCall _ _ [.opq yv,.iptr (aP f)] (S 0) _;rw[hS0];clear hS0;refine TCall.body Tryz.func284 rfl rfl Tryz.ntmps284 rfl rfl ?_;by_cases h0:f.jump.at_=0
 all_goals
  repeat' (first|refine qP ?_ (h:=fun hg=>by first|exact aa|exact pc b1|exact pc b3|exact pc b2|exact af)|apply sqW|refine rgK fun U V=>?_|(refine aN V ?_;clear V U)|refine aB ?_|refine aS ?_|refine aA ?_|refine aoE (EStep.dn rfl rfl rfl rfl ?_)|refine cX ?_ ?_<;>intro hc<;>try simp only[dE] at hc|refine blK ?_|refine skW ?_)
  all_goals (first|(exfalso;simp[h0] at hc;done)|skip)
  first|(have heq:f.bars=u:=by rw[←hu,if_pos h0])|(have heq:f.jump.at_=u:=by rw[←hu,if_neg h0])
  refine AWP.iF (yI l1) [(4,.ptr 7 0)] (fun j=>vSt (S j) yv f (dN (W.take j))) Pj (fun j x s=>x=.ret∧∃t' al,s=t'++gV yv f al∧R j t') (fun rc=>Gn rc _ heq) hP0 rfl tI ?_ ?_ rfl ⟨rfl,tI⟩ rfl rfl (fun j hj=>hok j (by rw[lLm] at hj;omega) _) hRok ?_ ?_ ?_
  · intro x hx;obtain⟨n,_,rfl⟩:=zAq.1 hx;rfl
  · intro x hx;obtain⟨n,_,rfl⟩:=zAq.1 hx;rfl
  · intro j x hx hp;obtain⟨b,hb,rfl⟩:∃b,l1[j]? = some b∧x=[.int b]:=by
     rw[zA5,zA6] at hx;obtain⟨b,h1,h2⟩:=hx;exact⟨b,h1,h2.symm⟩
    have hv:=TCall.val (first:=[]) (aQ:=[.ptr 6 0,.ptr 4 0]) (avs:=[.int b]) (B3 (j) b (hg1 j b hb) hp);clear B3 Gn Gp hok;show AWP _ _ _ (fun x e s=>x=.normal∧AWP _ _ _ (lG 9 (vSt (S (j+1)) yv f (dN (W.take (j+1)))) (Pj (j+1)) (fun x s=>x=.ret∧∃t' al,s=t'++gV yv f al∧R (j) t')) e s) _ (vSt (S (j)) yv f (dN (W.take (j))))
    repeat' (first|refine qS ?_|refine rgK fun U V=>?_|(refine aN V ?_;clear V U))
    refine⟨rfl,?_⟩
    repeat' (first|refine qS ?_|apply sqW|refine rgK fun U V=>?_|refine aoE (scT (hv) rfl rfl rfl rfl rfl nd rfl rfl nds ?_)|refine blK ?_)
    rintro r t (⟨rfl,rfl,hp'⟩|⟨rfl,t',rfl,hh⟩)
    · repeat' (first|refine qS ?_|(refine aN V ?_;clear V U)|refine cX ?_ ?_<;>intro hc<;>try simp only[dE] at hc|refine skW ?_|refine rtW ?_)
      · exfalso;simp at hc
      · exact⟨rfl,hp'⟩
    · repeat' (first|refine qS ?_|(refine aN V ?_;clear V U)|refine cX ?_ ?_<;>intro hc<;>try simp only[dE] at hc|refine skW ?_|refine rtW ?_)
      · refine⟨rfl,t',dN (W.take (j+1)),?_,hh⟩;rw[zAh (by rw[lLa,(hR _ _ hh).1];exact nLr _)]
      · exfalso;simp at hc
  · intro hPn;have eL:(yI l1).length=l1.length:=lLm ..;rw[eL] at hPn ⊢
    repeat' (first|refine qP ?_ (h:=fun hg=>by first|exact aa|exact pc b2|exact af)|apply sqW|refine rgK fun U V=>?_|(refine aN V ?_;clear V U)|refine blK ?_)
    refine AWP.iF (yI l2) [(4,.ptr 7 0)] (fun j=>vSt (S (l1.length+j)) yv f (dN (W.take (l1.length+j)))) (fun j=>Pj (l1.length+j)) (fun j x s=>x=.ret∧∃t' al,s=t'++gV yv f al∧R (l1.length+j) t') (fun rc=>Gp rc) hPn rfl tI ?_ ?_ rfl ⟨rfl,tI⟩ rfl rfl (fun j hj=>hok _ (by rw[lLm] at hj;omega) _) (fun j=>hRok (l1.length+j)) ?_ ?_ ?_
    · intro x hx;obtain⟨n,_,rfl⟩:=zAq.1 hx;rfl
    · intro x hx;obtain⟨n,_,rfl⟩:=zAq.1 hx;rfl
    · intro j x hx hp;obtain⟨b,hb,rfl⟩:∃b,l2[j]? = some b∧x=[.int b]:=by
       rw[zA5,zA6] at hx;obtain⟨b,h1,h2⟩:=hx;exact⟨b,h1,h2.symm⟩
      have hv:=TCall.val (first:=[]) (aQ:=[.ptr 6 0,.ptr 4 0]) (avs:=[.int b]) (B3 (l1.length+j) b (hg2 j b hb) hp);clear B3 Gn Gp hok;show AWP _ _ _ (fun x e s=>x=.normal∧AWP _ _ _ (lG 9 (vSt (S (l1.length+j+1)) yv f (dN (W.take (l1.length+j+1)))) (Pj (l1.length+j+1)) (fun x s=>x=.ret∧∃t' al,s=t'++gV yv f al∧R (l1.length+j) t')) e s) _ (vSt (S (l1.length+j)) yv f (dN (W.take (l1.length+j))))
      repeat' (first|refine qS ?_|refine rgK fun U V=>?_|(refine aN V ?_;clear V U))
      refine⟨rfl,?_⟩
      repeat' (first|refine qS ?_|apply sqW|refine rgK fun U V=>?_|refine aoE (scT (hv) rfl rfl rfl rfl rfl nd rfl rfl nds ?_)|refine blK ?_)
      rintro r t (⟨rfl,rfl,hp'⟩|⟨rfl,t',rfl,hh⟩)
      · repeat' (first|refine qS ?_|(refine aN V ?_;clear V U)|refine cX ?_ ?_<;>intro hc<;>try simp only[dE] at hc|refine skW ?_|refine rtW ?_)
        · exfalso;simp at hc
        · exact⟨rfl,hp'⟩
      · repeat' (first|refine qS ?_|(refine aN V ?_;clear V U)|refine cX ?_ ?_<;>intro hc<;>try simp only[dE] at hc|refine skW ?_|refine rtW ?_)
        · refine⟨rfl,t',dN (W.take (l1.length+j+1)),?_,hh⟩;rw[zAh (by rw[lLa,(hR _ _ hh).1];exact nLr _)]
        · exfalso;simp at hc
    · intro hPn2;have eL2:(yI l2).length=l2.length:=lLm ..;rw[eL2,hl1] at hPn2 ⊢;obtain⟨k1,k2⟩:=hS W.length (nLr _);refine⟨.inl rfl,.tup [],S W.length,.inl ⟨rfl,hPn2⟩,?_,?_,?_,rfl,rfl⟩
      · rw[k1]
        conv=>rhs;rw[yj]
        rfl
      · rw[k1];exact nLr _
      · rw[k1];exact k2
    · rintro j x s hj ⟨rfl,t',al,rfl,hh⟩;rw[lLm] at hj;obtain⟨k1,k2⟩:=hR _ _ hh;exact⟨.inr rfl,.tup [],t',.inr ⟨_,oM,hh⟩,by rw[k1];exact zBm oM |>.trans (zAh oM),by rw[k1];exact nLr _,by rw[k1];exact k2,rfl,rfl⟩
  · rintro j x s hj ⟨rfl,t',al,rfl,hh⟩;rw[lLm] at hj;obtain⟨k1,k2⟩:=hR _ _ hh;exact⟨.inr rfl,.tup [],t',.inr ⟨_,oM,hh⟩,by rw[k1];exact zBm oM |>.trans (zAh oM),by rw[k1];exact nLr _,by rw[k1];exact k2,rfl,rfl⟩
end Go.Proofs.YthiaimakjmhegaaGreatDoor.Pl
namespace Go.Pl
open Go.Ab
theorem Gq {f:aG} {r:bV} (h:r∈f.ar) {M:Int} (hr:∀r∈f.ar,r.from_<r.ak∧r.times≤9) (all:Bool):(rV f r all).length≤9 * (r.ak - r.from_).toNat:=by
 obtain⟨h1,h2⟩:=hr r h;unfold rV;rw[List.length_flatMap];have hp:∀p,(jL f r p).length≤(r.ak - r.from_).toNat:=fun p=>by
  unfold jL;refine zC2 (zDs _ _) ?_;unfold gg;simp
 have hs:∀l:List Int,(l.map fun p=>(jL f r p).length).sum≤l.length * (r.ak - r.from_).toNat:=fun l=>by
  induction l with
  |nil=>simp
  | cons a l ih =>
    rw[zBt,List.sum_cons,zAd,Nat.succ_mul];have:=hp a;omega
 refine zC2 (hs _) (zAv _ ?_);unfold gg;rw[lLm,List.length_range];split
 · omega
 · rcases Int.lt_or_le r.times 1 with h3|h3<;>omega
theorem jz {f:aG} (hr:∀r∈f.ar,r.from_<r.ak∧r.times≤9) {M:Int} (hM:∀r∈f.ar,r.ak≤M) (u:Int) (hu:u≤M) (all:Bool):∀(k:Nat) (bar:Int),(fE f u all k bar).length≤9 * (M - bar).toNat
 |0,_=>nZl _
 | k + 1, bar => by
   unfold fE;by_cases hb:bar<u
   · rw[if_pos hb];cases hs:dW f.ar bar with
     | none =>
       simp only;have:=jz hr hM u hu all k (bar+1);rw[zAd];omega
     | some r =>
       simp only;have hm:=zBi hs;have he:r.from_=bar:=by
        have:=zDl hs;simpa using this
       have h1:=jz hr hM u hu all k r.ak;have h2:=Gq hm hr all (M:=M);have h3:=hM r hm;have h4:=(hr r hm).1;rw[lLa];omega
   · rw[if_neg hb];exact nZl _
theorem B4 {f:aG} (hr:∀r∈f.ar,r.from_<r.ak∧r.times≤9∧r.ak≤4000) (hb:f.bars≤4000) (ha:f.jump.at_≤4000) (ht:0≤f.jump.to) (hf:f.jump.ch≤4000):(aK f).length≤72000:=by
 have h1:∀a u all,0≤a→u≤4000→(bu f a u all).length≤36000:=fun a u all h0 hu=>by
  have:=jz (M:=4000) (fun r h=>⟨(hr r h).1,(hr r h).2.1⟩) (fun r h=>(hr r h).2.2) u hu all (u - a).toNat a;unfold bu;omega
 unfold aK;split
 · rw[lLa];have:=h1 0 f.bars true oM hb;have:=h1 f.jump.to f.jump.ch false ht hf;omega
 · rw[lLa];have:=h1 0 f.jump.at_ true oM ha;have:=h1 f.jump.to f.jump.ch false ht hf;omega
def jR (f:aG):Bool :=
 decide (1≤f.bars)&&decide (f.bars≤4000)&&(cT f.bars 0 f.ar&&decide (f.ar.length≤100))&&(dy f.ar 0 f.ends&&decide (f.ends.length≤100))&&dC f&&(eh f.bars f.cuts&&decide (f.cuts.length≤100))
theorem dJ (f:aG):aW f=(jR f&&decide ((aK f).length≤20000)):=rfl
theorem Jb {f:aG} (h:dC f=true) (hb:f.bars≤4000):0≤f.jump.at_∧0≤f.jump.to∧f.jump.at_≤4000∧f.jump.to≤4000∧f.jump.ch≤4000:=by
 unfold dC at h;rw[zC5] at h;rcases h with h|h
 · rw[dEt] at h;rw[h];decide
 · simp only[zA0,zB3,zAg,dEf] at h;obtain⟨⟨⟨⟨⟨⟨h1,h2⟩,h3⟩,h4⟩,h5⟩,h6⟩,_⟩:=h;omega
end Go.Pl
namespace Go.Proofs.YthiaimakjmhegaaGreatDoor.Pl
open Go.Ab Go.Pl
attribute [local irreducible] AWP AOps EStep AQ PStep PRun PCall TCall VCall
structure kI (f:aG):Prop where
 ok:FOk f
 j:0≤f.jump.at_∧0≤f.jump.to∧f.jump.at_≤4000∧f.jump.to≤4000∧f.jump.ch≤4000
 len:(aK f).length≤1000000
theorem kI.of {f:aG} (h:jR f=true):kI f:=by
 unfold jR at h;simp only[zA0,dEt] at h;obtain⟨⟨⟨⟨⟨h1,h2⟩,h3,_⟩,_⟩,h5⟩,_⟩:=h;have hr:=fun r hm=>rY h3 r hm
 have hj:=Jb h5 h2;refine⟨⟨h2,fun r hm=>?_⟩,hj,zC2 (B4 (fun r hm=>?_) h2 hj.2.2.1 hj.2.1 hj.2.2.2.2) dCd⟩
 · have:=hr r hm;omega
 · have:=hr r hm;omega
theorem qf (f:aG) (hf:FIn f) (hg:kI f):PCall Tryz.prog 184 [.agg (aP f)] (.b (decide ((aK f).length≤20000))):=by
 have hv:=ri f;have hlen:(yV (cj (aK f))).length=(aK f).length:=by unfold cj;simp
 refine PCall.bN ab Tryz.func184 rfl rfl Tryz.ntmps184 rfl ?_
 repeat' (first|refine qP ?_ (h:=fun hg=>by first|exact aa|exact pc hv|exact af)|apply sqW|refine rgK fun U V=>?_|(refine aN V ?_;clear V U)|refine aB ?_|refine aS ?_|refine aA ?_|refine blK ?_)
 refine AWP.iF (yV (cj (aK f))) [(2,.ptr 1 0),(3,.ptr 2 0)] (fun j=>[.var (aP f),.var [.b false],.var [.int j]]) (fun j=>j≤20000) (fun j x s=>x=.ret∧s=[.var (aP f),.var [.b false],.var [.int (j+1:Nat)]]∧20000≤j) (fun rc=>rj f hf hg.ok hg.j hg.len _ _) (nZl _) rfl tI ?_ ?_ rfl ⟨rfl,rfl,tI⟩ rfl rfl (fun j hj=>⟨rfl,rfl⟩) ?_ ?_ ?_ ?_
 · intro x hx;obtain⟨n,_,rfl⟩:=zAq.1 hx;rfl
 · intro x hx;obtain⟨n,_,rfl⟩:=zAq.1 hx;rfl
 · rintro j x s ⟨_,rfl,_⟩;exact⟨rfl,rfl⟩
 · intro j x hx hp;obtain⟨v,rfl⟩:∃v:cB,x=[.agg (bC v)]:=by
    rw[zA5,zA6] at hx;obtain⟨v,_,h2⟩:=hx;exact⟨v,h2.symm⟩
   have e1:(j:Int)+1=((j+1:Nat):Int):=oM
   repeat' (first|refine skW ?_)
   refine⟨rfl,?_⟩
   repeat' (first|refine qS ?_|apply sqW|refine rgK fun U V=>?_|(refine aN V ?_;clear V U)|refine aS ?_|refine cX ?_ ?_<;>intro hc<;>try simp only[dE] at hc|refine blK ?_|refine skW ?_|refine rtW ?_)
   · refine⟨rfl,?_,oM⟩;show[_,_,bc.var [AV.int ((j:Int)+1)]]=_;rw[e1]
   · refine⟨?_,oM⟩;show[_,_,bc.var [AV.int ((j:Int)+1)]]=_;rw[e1]
 · intro hp;rw[hlen] at hp
   repeat' (first|apply sqW|refine rgK fun U V=>?_|(refine aN V ?_;clear V U)|refine aS ?_|refine rtW ?_)
   exact⟨.inr rfl,_,rfl,Ent.b (decide_eq_true hp).symm⟩
 · rintro j x s hj ⟨rfl,rfl,h⟩;rw[hlen] at hj;exact⟨.inr rfl,_,rfl,Ent.b (decide_eq_false oM).symm⟩
theorem gD (f:aG) (hf:FIn f):PCall Tryz.prog 117 [.agg (aP f)] (.b (aW f)):=by
 have h1:=tg f hf;have h2:=th f hf;have h3:=zI f hf;have h4:=x5 f hf;by_cases hA:jR f=true
 · have h5:=qf f hf (kI.of hA);refine PCall.body Tryz.func117 rfl rfl Tryz.ntmps117 rfl rfl ?_
   repeat' (first|refine qP ?_ (h:=fun hg=>by first|exact aa|exact pbD ab rfl rfl nds|exact pc h1|exact pc h2|exact pc h3|exact pc h4|exact pc h5|exact af)|apply sqW|refine rgK fun U V=>?_|(refine aN V ?_;clear V U)|refine aB ?_|refine aS ?_|refine aA ?_|refine rtW ?_)
   exact⟨.inr rfl,Ent.b rfl⟩
 · have hn:¬(decide (f.bars≥1)&&decide (f.bars≤4000)&&(cT f.bars 0 f.ar&&decide (f.ar.length≤100))&&(dy f.ar 0 f.ends&&decide (f.ends.length≤100))&&dC f&&(eh f.bars f.cuts&&decide (f.cuts.length≤100)))=true:=hA;refine PCall.body Tryz.func117 rfl rfl Tryz.ntmps117 rfl rfl ?_
   repeat' (first|refine qP ?_ (h:=fun hg=>by first|exact aa|exact pbD ab rfl rfl nds|exact pc h1|exact pc h2|exact pc h3|exact pc h4|exact(absurd (eq_of_beq hg) hn:PRun _ _ _ _ (.b false))|exact af|fail)|apply sqW|refine rgK fun U V=>?_|(refine aN V ?_;clear V U)|refine aB ?_|refine aS ?_|refine aA ?_|refine rtW ?_)
   refine⟨.inr rfl,Ent.b ?_⟩;rw[dJ,show jR f=false by simpa using hA];exact zD5 _
theorem zO (c:bI) (v:cB):PCall Tryz.prog 250 [.agg (aM c),.iptr (bC v)] (.b (leaves c v)):=by
 refine PCall.body Tryz.func250 rfl rfl Tryz.ntmps250 rfl rfl ?_
 repeat' (first|refine qS ?_|apply sqW|refine rgK fun U V=>?_|(refine aN V ?_;clear V U)|refine aB ?_|refine rtW ?_)
 exact⟨.inr rfl,Ent.b rfl⟩
def eD (f:aG) (j:Nat):List cB:=((cj (aK f)).take j).filter fun v=>!(f.cuts.any fun c=>leaves c v)
theorem vD (f:aG) {j:Nat} {v:cB} (h:(cj (aK f))[j]? = some v):eD f (j+1)=if (f.cuts.any fun c=>leaves c v) then eD f j else eD f j++[v]:=by
 unfold eD;rw[zC8,h];show((cj (aK f)).take j++[v]).filter _=_;rw[List.filter_append];cases hc:f.cuts.any fun c=>leaves c v
 · rw[zCy (by rw[hc];rfl)];rfl
 · rw[zCz (by rw[hc];decide)];simp
theorem sk (f:aG) (j:Nat):(eD f j).length≤(aK f).length:=by
 unfold eD;refine zC2 (zDs _ _) ?_;rw[zAn];have:(cj (aK f)).length=(aK f).length:=by unfold cj;simp
 omega
def mW (f:aG):List cB×Int:=if aW f then (bM f,0) else ([],1)
theorem zP (f:aG) (hf:FIn f):PCall Tryz.prog 188 [.agg (aP f)] (.tup [.sl 2 ((mW f).1.map bC) .no,.int (mW f).2]):=by
 have hv:=ri f;have hva:=gD f hf;have hlen:(yV (cj (aK f))).length=(aK f).length:=by unfold cj;simp
 by_cases hok:aW f=true
 · have hg:kI f:=kI.of (by rw[dJ,zA0] at hok;exact hok.1);have hl:(aK f).length≤20000:=by rw[dJ,zA0] at hok;simpa using hok.2
   rw[show mW f=(bM f,0) by unfold mW;rw[if_pos hok]];rw[hok] at hva;refine PCall.body Tryz.func188 rfl rfl Tryz.ntmps188 rfl rfl ?_
   repeat' (first|refine qP ?_ (h:=fun hg=>by first|exact aa|exact pc hva|exact pbD ab rfl rfl nds|exact pc hv|exact af)|apply sqW|refine rgK fun U V=>?_|(refine aN V ?_;clear V U)|refine aB ?_|refine aA ?_|refine cX ?_ ?_<;>intro hc<;>try simp only[dE] at hc|refine blK ?_|refine skW ?_|refine rtW ?_)
   · exfalso;simp at hc
   refine AWP.nt (v:=1) (i:=0) (sz:=2) (cs:=[.nils]) rfl rfl ?_;refine AWP.iF (yV (cj (aK f))) [(1,.ptr 0 0),(4,.ptr 1 0)] (fun j=>[.var (aP f),.var [.sl 2 ((eD f j).map bC) (.own 2)],.own 2 ((eD f j).map bC).length]) (fun _=>True) (fun _ _ _=>False) (fun rc=>rj f hf hg.ok hg.j hg.len _ _) tI rfl tI ?_ ?_ rfl ⟨rfl,rfl,tI⟩ rfl rfl (fun j hj=>⟨rfl,rfl⟩) (fun _ _ _ h=>h.elim) ?_ ?_ (fun _ _ _ _ h=>h.elim)
   · intro x hx;obtain⟨n,_,rfl⟩:=zAq.1 hx;rfl
   · intro x hx;obtain⟨n,_,rfl⟩:=zAq.1 hx;rfl
   · intro j x hx _;obtain⟨v,hvj,rfl⟩:∃v:cB,(cj (aK f))[j]? = some v∧x=[.agg (bC v)]:=by
      rw[zA5,zA6] at hx;obtain⟨v,h1,h2⟩:=hx;exact⟨v,h1,h2.symm⟩
     have h1:=BM f.cuts (.fn (.func 250) [] [.iptr (bC v)]) (fun c=>leaves c v) (fun x _=>⟨_,[],_,rfl,zO x v⟩) hf.cuts;have hs:=vD f hvj;have hle:=sk f j;cases hcc:f.cuts.any fun c=>leaves c v with
     | true =>
       rw[hcc] at h1 hs;rw[if_pos rfl] at hs
       repeat' (first|refine rgK fun U V=>?_|(refine aN V ?_;clear V U)|refine aS ?_|refine aA ?_)
       refine⟨rfl,?_⟩
       repeat' (first|refine qP ?_ (h:=fun hg=>by first|exact aa|exact pbW (h1) rfl rfl nd rfl rfl nds|exact af)|apply sqW|refine rgK fun U V=>?_|(refine aN V ?_;clear V U)|refine cX ?_ ?_<;>intro hc<;>try simp only[dE] at hc|refine blK ?_|refine skW ?_)
       · exfalso;simp at hc
       · refine⟨?_,tI⟩;show _=([.var (aP f),.var [.sl 2 ((eD f (j+1)).map bC) (.own 2)],.own 2 ((eD f (j+1)).map bC).length]:ae);rw[hs];rfl
     | false =>
       rw[hcc] at h1 hs;rw[if_neg dCd] at hs
       repeat' (first|refine rgK fun U V=>?_|(refine aN V ?_;clear V U)|refine aS ?_|refine aA ?_)
       refine⟨rfl,?_⟩
       repeat' (first|refine qP ?_ (h:=fun hg=>by first|exact aa|exact pbW (h1) rfl rfl nd rfl rfl nds|exact pbS ab rfl rfl nds|exact af)|apply sqW|refine rgK fun U V=>?_|(refine aN V ?_;clear V U)|refine aS ?_|refine aoE (EStep.dH ab rfl rfl rfl dCd (Rd.w rfl tI) rfl (Rd.w rfl tI) (.sl rfl (by first|(intro x hx;rcases zA9.1 hx with rfl;rfl)|exact one_by8 _|exact dV _)) (lkG rfl) (lkG rfl) rfl rfl (by simp only[lLm,lLa,zAd,zAm];omega) (by simp only[lLm,lLa,zAd,zAm];omega) ?_)|refine cX ?_ ?_<;>intro hc<;>try simp only[dE] at hc|refine blK ?_|refine skW ?_)
       · refine⟨?_,tI⟩;show _=([.var (aP f),.var [.sl 2 ((eD f (j+1)).map bC) (.own 2)],.own 2 ((eD f (j+1)).map bC).length]:ae);rw[hs,zBw,show(List.map bC (eD f j)++List.map bC [v]).length=(List.map bC (eD f j)).length+1 by simp];rfl
       · exfalso;simp at hc
   · intro _;have e9:eD f (yV (cj (aK f))).length=bM f:=by
      unfold eD bM;rw[lLm,zBl]
     repeat' (first|refine qS ?_|apply sqW|refine rgK fun U V=>?_|(refine aN V ?_;clear V U)|refine rtW ?_)
     refine⟨.inr rfl,Ent.of ?_⟩;rw[e9];rfl
 · rw[show mW f=([],1) by unfold mW;rw[if_neg hok]];have hok2:aW f=false:=by simpa using hok
   rw[hok2] at hva;refine PCall.body Tryz.func188 rfl rfl Tryz.ntmps188 rfl rfl ?_
   repeat' (first|refine qP ?_ (h:=fun hg=>by first|exact aa|exact pc hva|exact pbD ab rfl rfl nds|exact pc hv|exact af)|apply sqW|refine rgK fun U V=>?_|(refine aN V ?_;clear V U)|refine aB ?_|refine aA ?_|refine cX ?_ ?_<;>intro hc<;>try simp only[dE] at hc|refine blK ?_|refine skW ?_|refine rtW ?_)
   · exact⟨.inr rfl,Ent.jl Ent.nil (Ent.bO _)⟩
   · exfalso;simp at hc
instance:Inhabited cB:=⟨⟨0,0⟩⟩
theorem flV:kQ Tryz.prog 47=some [.int .i64,.int .i64]:=by kernel_rfl
def gW (v x:cB):Bool:=v.bar==x.bar&&(v.pass==x.pass&&true)
theorem mC (v x:cB):gW v x=true↔x=v:=by
 obtain⟨a,b⟩:=v;obtain⟨c,d⟩:=x;unfold gW;simp only[zCf,zA0,beq_iff_eq,cB.mk.injEq];exact⟨fun h=>⟨h.1.symm,h.2.symm⟩,fun h=>⟨h.1.symm,h.2.symm⟩⟩
theorem zQ (l:List cB) (v:cB) (hl:l.length≤1000000000):PCall Tryz.prog 189 [.sl 2 (l.map bC) .no,.agg (bC v)] (.int (az (gW v) l)):=by
 refine PCall.body Tryz.func189 rfl rfl Tryz.ntmps189 rfl rfl ?_
 repeat' (first|refine qT ?_|apply sqW|refine rgK fun U V=>?_|(refine aN V ?_;clear V U)|refine aB ?_|refine blK ?_)
 refine lpW (ι:=Nat) (fun k=>[(0,.sl 2 (l.map bC) .no),(3,.ptr 0 0),(6,.sl 2 (l.map bC) .no),(7,.int l.length),(8,.int k)]) (fun _=>[.var (bC v)]) (fun k=>k≤l.length∧∀j,j<k→gW v (l.getD j default)=false) (fun k=>l.length - k) 0 ⟨nZl _,fun j h=>absurd h oM⟩ ⟨rfl,rfl,rfl,rfl,rfl,tI⟩ rfl ?_;rintro k ⟨hk,au⟩;by_cases hlt:k<l.length
 · repeat' (first|refine qS ?_|apply sqW|refine rgK fun U V=>?_|(refine aN V ?_;clear V U)|refine cX ?_ ?_<;>intro hc<;>try simp only[dE] at hc|refine blK ?_|refine exW ?_|refine skW ?_|refine rtW ?_|refine kD fun U V=>?_|(refine aqN (V _ ?_);clear V U)|refine aqQ rfl rfl (fun hg=>by first|exact aa|exact PRun.eqS flV rfl rfl nd rfl nd rfl|exact af) (by exact rfl) ?_)
   all_goals first|(exfalso;omega)|skip
   · refine⟨.inr rfl,?_⟩;rw[show az (gW v) l=k from bP hlt hc au];exact fun _ _ h=>h
   · exact⟨k+1,⟨oM,fun j hj=>aH au hc hj⟩,oM,⟨rfl,rfl,rfl,rfl,rfl,tI⟩,rfl⟩
 · repeat' (first|refine qS ?_|apply sqW|refine rgK fun U V=>?_|(refine aN V ?_;clear V U)|refine cX ?_ ?_<;>intro hc<;>try simp only[dE] at hc|refine blK ?_|refine exW ?_|refine skW ?_|refine rtW ?_|refine kD fun U V=>?_|refine aqQ rfl rfl (fun hg=>by first|exact aa|exact af) (by exact rfl) ?_)
   all_goals first|(exfalso;omega)|skip
   refine⟨.inr rfl,?_⟩;rw[show az (gW v) l = -1 from bX fun j hj=>au j oM];exact fun _ _ h=>h
def jS (f:aG) (v:cB):Int×Bool×Int:=if aW f then (max (az (gW v) (bM f)) 0,decide (v∈bM f),0) else (0,false,1)
theorem Ep (l:List cB) (v:cB):decide (az (gW v) l≥0)=decide (v∈l):=by
 rw[gA,zAi,zCw,dEt];constructor
 · rintro⟨x,hx,h⟩;rw[←(mC v x).1 h];exact hx
 · intro h;exact⟨v,h,(mC v v).2 rfl⟩
theorem find_spec (f:aG) (hf:FIn f) (v:cB):PCall Tryz.prog 123 [.agg (aP f),.agg (bC v)] (.tup [.int (jS f v).1,.b (jS f v).2.1,.int (jS f v).2.2]):=by
 have hu:=zP f hf;by_cases hok:aW f=true
 · have hl:(bM f).length≤1000000000:=by
    have h1:(aK f).length≤20000:=by rw[dJ,zA0] at hok;simpa using hok.2
    have h2:=sk f (cj (aK f)).length;unfold eD at h2;rw[zBl] at h2;show((cj (aK f)).filter _).length≤_;omega
   rw[show mW f=(bM f,0) by unfold mW;rw[if_pos hok]] at hu;rw[show jS f v=(max (az (gW v) (bM f)) 0,decide (v∈bM f),0) by unfold jS;rw[if_pos hok],←Ep];have hi:=zQ (bM f) v hl;refine PCall.body Tryz.func123 rfl rfl Tryz.ntmps123 rfl rfl ?_
   repeat' (first|refine qP ?_ (h:=fun hg=>by first|exact aa|exact pc hu|exact pc hi|exact af)|apply sqW|refine rgK fun U V=>?_|(refine aN V ?_;clear V U)|refine aB ?_|refine cX ?_ ?_<;>intro hc<;>try simp only[dE] at hc|refine skW ?_|refine rtW ?_)
   · exact absurd hc dCd
   · exact⟨.inr rfl,fun _ _ h=>h⟩
 · rw[show mW f=([],1) by unfold mW;rw[if_neg hok]] at hu;rw[show jS f v=(0,false,1) by unfold jS;rw[if_neg hok]];refine PCall.body Tryz.func123 rfl rfl Tryz.ntmps123 rfl rfl ?_
   repeat' (first|refine qP ?_ (h:=fun hg=>by first|exact aa|exact pc hu|exact af)|apply sqW|refine rgK fun U V=>?_|(refine aN V ?_;clear V U)|refine aB ?_|refine cX ?_ ?_<;>intro hc<;>try simp only[dE] at hc|refine skW ?_|refine rtW ?_)
   · exact⟨.inr rfl,fun _ _ h=>h⟩
   · exact absurd hc dCd
end Go.Proofs.YthiaimakjmhegaaGreatDoor.Pl
