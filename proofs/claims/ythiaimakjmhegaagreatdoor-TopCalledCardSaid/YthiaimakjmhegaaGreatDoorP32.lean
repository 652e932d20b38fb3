/- Parts of the proof. No statement is proved here. -/
import Derived.Test.YthiaimakjmhegaaGreatDoorP30
import Derived.Test.YthiaimakjmhegaaGreatDoorP31
set_option linter.unusedVariables false
set_option linter.unusedSimpArgs false
set_option maxHeartbeats 16000000
set_option maxRecDepth 20000
namespace Go.Ab
theorem PCall.ofT {P:Program} {f:FuncId} {avs:List AV} {r:AV} {Q:AV→ae→Prop} (h:TCall P f avs [] Q) (hq:∀rv s M B v,Q rv s→ag M B rv v→ag M [] r v):PCall P f avs r:=by
 refine⟨h.1,fun M w vs hm ha=>?_⟩;have hs:aC ⟨M,.all w,M,[],[],none,[]⟩ [] w:=⟨hm,fun _ _=>⟨fun _=>rfl,rfl⟩,⟨nLr _,fun _ _=>rfl⟩,rfl,fun l g o h=>by simp at h,fun l g b h=>by simp at h,fun l l' g g' b h=>by simp at h,cD.refl _,⟨fun _ h=>(by cases h),fun _ h=>(by cases h)⟩⟩;refine(h.2 _ w vs hs ha).mono ?_;rintro e w' ⟨v,rv,s,G',e1,hQ,hle,hs',hv⟩;have hw0:G'.w0=A3.all w:=hle.w0;have hm0:G'.M0=M:=hle.m0;refine⟨v,G'.M,e1,hq _ _ _ _ _ hQ hv,hle.m,hs'.ay,?_,fun b hb=>?_,fun b hb=>?_,by have:=hs'.out;rwa [hw0] at this⟩
 · have:=hs'.base.1;rwa [hw0] at this
 · have:=hs'.base.2 b;rw[hw0] at this;exact this hb
 · have:=hs'.m0 b;rw[hw0,hm0] at this;exact this hb
end Go.Ab
namespace Go.Proofs.YthiaimakjmhegaaGreatDoor.De
open Go.Ab Go.Pl Pl
attribute [local irreducible] AWP AOps EStep AQ PStep PRun PCall TCall VCall
def fV (ws:List aV) (l:List Dec) (r:Room):Room:=l.foldl (fun r d=>(doR ws r d).1) r
theorem CI (ws:List aV) (l:List Dec) (r:Room) {j:Nat} (hj:j<l.length) {d:Dec} (hd:l.getD j default=d):fV ws (l.take (j+1)) r=(doR ws (fV ws (l.take j) r) d).1:=by
 have:l.take (j+1)=l.take j++[d]:=by rw[←hd,bb hj];exact zBn hj
 rw[this];unfold fV;rw[zCl];rfl
theorem rA {known time:Int} {d:Dec} {l:List Dec}:bJ known time (d::l)=if gZ known time d=true then [] else d::bJ known time l:=by
 unfold bJ;rw[List.takeWhile_cons];by_cases h:gZ known time d=true
 · simp[h]
 · have h2:gZ known time d=false:=by simpa using h
   simp[h2]
theorem AZ {ws:List aV} {known time:Int}:∀(ds:List Dec) (r:Room),(∀j,j<(bJ known time ds).length→(doR ws (fV ws ((bJ known time ds).take j) r) ((bJ known time ds).getD j default)).2=0)→fP ws known time ds r=(fV ws (bJ known time ds) r,true)
 |[],r,_=>rfl
 | d :: l, r, h => by
   unfold fP;rw[rA] at h ⊢;by_cases hd:gZ known time d=true
   · rw[if_pos hd,if_pos hd];rfl
   · rw[if_neg hd] at h ⊢;rw[if_neg hd];have h0:(doR ws r d).2=0:=h 0 sMp;rw[if_neg (by rw[h0];decide),AZ l _ fun j hj=>h (j+1) (by simpa using hj)];rfl
theorem yT {ws:List aV} {known time:Int}:∀(ds:List Dec) (r:Room) (k:Nat),k<(bJ known time ds).length→(∀j,j<k→(doR ws (fV ws ((bJ known time ds).take j) r) ((bJ known time ds).getD j default)).2=0) →
 (doR ws (fV ws ((bJ known time ds).take k) r) ((bJ known time ds).getD k default)).2≠0→fP ws known time ds r=((doR ws (fV ws ((bJ known time ds).take k) r) ((bJ known time ds).getD k default)).1,false)
 |[],r,k,hk,_,_=>by simp[bJ] at hk
 | d :: l, r, k, hk, h, hn => by
   unfold fP;rw[rA] at hk h hn ⊢;by_cases hd:gZ known time d=true
   · rw[if_pos hd] at hk;simp at hk
   · rw[if_neg hd] at hk h hn ⊢;rw[if_neg hd];cases k with
     | zero =>
       have hn':(doR ws r d).2≠0:=hn;rw[if_pos hn'];rfl
     | succ k =>
       have h0:(doR ws r d).2=0:=h 0 (zBz _);rw[if_neg (by rw[h0];decide)];exact yT l _ k (by simpa using hk) (fun j hj=>h (j+1) (Nat.succ_lt_succ hj)) hn
theorem A0 {ws:List aV} (hws:cC ws=true):∀(l:List Dec) {r:Room},fK ws r→fK ws (fV ws l r)
 |[],_,h=>h
 |d::l,r,h=>A0 hws l (Cf hws h d)
theorem qM {f:aG} (h:aW f=true):FIn f:=by
 unfold aW at h;simp only[zA0,dEt] at h;exact⟨oM,oM,oM⟩
theorem Jw {ws:List aV} {r:Room} (h:fK ws r):r.aZ.length≤1000:=by
 have h1:r.aZ.Nodup:=h.sorted.imp fun h=>by omega
 have h2:r.aZ ⊆ (List.range 21).map fun n:Nat=>(n:Int):=fun x hx=>by
  have:=h.range x hx;exact zAq.2 ⟨x.toNat,zAs.2 oM,oM⟩
 have:=List.Nodup.length_le_of_subset h1 h2;simp at this;omega
theorem do_T {o0 o1 o2:bc} (h0:OkA o0) (h1:OkA o1) (h2:OkA o2) (ws:List aV) (hl:ws.length≤1000000000) (hws:∀w∈ws,WIn w) (r:Room) (hr:fK ws r) (d:Dec) :
 TCall Tryz.prog 112 [.ptr 3 0,.agg (bx d)] [o0,o1,o2,.var (stC ws r)] (fun rv s=>rv=.int (doR ws r d).2∧s=[o0,o1,o2,.var (stC ws (doR ws r d).1)]):=by
 have hf:=qM hr.form;unfold doR;by_cases k1:d.kind=1
 · rw[if_pos k1];exact tQ h0 h1 h2 ws r _ _ d _ 4 5 (by rw[ko,if_pos k1]) (LU h0 h1 h2 okK ws hl hws r d)
 rw[if_neg k1];by_cases k2:d.kind=2
 · rw[if_pos k2];exact tQ h0 h1 h2 ws r _ _ d _ 4 6 (by rw[ko,if_neg k1,if_pos k2]) (LV h0 h1 h2 okK ws r hf d)
 rw[if_neg k2];by_cases k3:d.kind=3
 · rw[if_pos k3];exact tQ h0 h1 h2 ws r _ _ d _ 4 6 (by rw[ko,if_neg k1,if_neg k2,if_pos k3]) (LW h0 h1 h2 okK ws r hf d)
 rw[if_neg k3];by_cases k4:d.kind=4
 · rw[if_pos k4];exact tQ h0 h1 h2 ws r _ _ d _ 5 4 (by rw[ko,if_neg k1,if_neg k2,if_neg k3,if_pos k4]) (LX h0 h1 h2 okK ws r hf d)
 rw[if_neg k4];by_cases k5:d.kind=5
 · rw[if_pos k5];exact tQ h0 h1 h2 ws r _ _ d _ 4 5 (by rw[ko,if_neg k1,if_neg k2,if_neg k3,if_neg k4,if_pos k5]) (L1 h0 h1 h2 okK ws r hr.sorted (Jw hr) d)
 rw[if_neg k5];exact L2 h0 h1 h2 ws r d (Hc _ ⟨k1,k2,k3,k4,k5⟩)
abbrev qq (o0:bc) (ws:List aV) (r:Room) (ok:Bool):ae:=[o0,.var [.ptr 3 0],.var [.b ok],.var (stC ws r)]
def yU (ws:List aV) (L:List Dec) (r:Room) (j:Nat):Prop:=∀i,i<j→(doR ws (fV ws (L.take i) r) (L.getD i default)).2=0
def runL (o0:bc) (ws:List aV) (L:List Dec) (r:Room) (j:Nat) (x:Exit) (s:ae):Prop :=
 x=.ret∧s=[o0,.var [.ptr 3 0],.var [.b false],.var (stC ws (doR ws (fV ws (L.take j) r) (L.getD j default)).1),.var [.ptr 3 0]]∧yU ws L r j∧(doR ws (fV ws (L.take j) r) (L.getD j default)).2≠0
theorem H4 {o0:bc} (h0:OkA o0) (ws:List aV) (hwo:cC ws=true) (hl:ws.length≤1000000000) (hws:∀w∈ws,WIn w) (ds:List Dec) (hd:ds.length≤1000000000) (known time:Int) :
 TCall Tryz.prog 47 [.sl 12 (ws.map aU) .no,.sl 6 (ds.map bx) .no,.int known,.int time] [o0]
  (fun rv s=>rv=.tup [.ptr 3 0,.b (fP ws known time ds (cA ws)).2]∧s=qq o0 ws (fP ws known time ds (cA ws)).1 (fP ws known time ds (cA ws)).2):=by
 have hne:ws≠[]:=by
  unfold cC at hwo;simp only[zA0,dEt] at hwo;intro e;rw[e] at hwo;exact absurd hwo.2.1 dCd
 have o1:OkA (.var [.prim (.pointer none)]):=fun m=>rfl
 have o2:OkA (.var [.b false]):=fun m=>rfl
 have hn:=TCall.val (first:=[]) (aQ:=[]) (avs:=[.sl 12 (ws.map aU) .no]) (Cz h0 o1 o2 ws hne hl hws);have hu:=CA ds known time;have hdo:=fun r hr d=>mb (do_T h0 o1 o2 ws hl hws r hr d) h0 o1 o2 (eP ws r) rfl [.var [.ptr 3 0],.var (bx d)]
 have hit:=fun rc E Pj=>CB o0 ws (fun j=>fV ws ((bJ known time ds).take j) (cA ws)) ds hd known time rc E Pj
 have hok:∀r ok,(qq o0 ws r ok).all (aD 4)=true:=fun r ok=>by
  simp only[zB4,zBg,h0 4,eP ws r 4];rfl
 have hS5:∀r,(nj o0 ws r).all (aD 5)=true:=fun r=>by
  unfold nj;simp only[zB4,zBg,h0 5,eP ws r 5];rfl
 have hS6:∀r b,([o0,.var [.ptr 3 0],.var [.b b],.var (stC ws r),.var [.ptr 3 0]]:ae).all (aD 5)=true:=fun r b=>by
  simp only[zB4,zBg,h0 5,eP ws r 5];rfl
 have hra:=AZ (ws:=ws) (known:=known) (time:=time) ds (cA ws);have hrs:=fun k=>yT (ws:=ws) (known:=known) (time:=time) ds (cA ws) k
 have hin:=fun j=>A0 hwo ((bJ known time ds).take j) (yF hwo)
 generalize hR:fP ws known time ds (cA ws)=R at *;refine TCall.pO ab Tryz.func47 rfl rfl Tryz.ntmps47 rfl ?_
 repeat' (first|refine qS ?_|apply sqW|refine rgK fun U V=>?_|(refine aN V ?_;clear V U)|refine aA ?_|refine aoE (scT (hn) rfl rfl rfl rfl rfl nd rfl rfl nds ?_))
 rintro _ _ ⟨rfl,rfl⟩
 repeat' (first|refine qP ?_ (h:=fun hg=>by first|exact aa|exact pc hu|exact af|fail)|apply sqW|refine rgK fun U V=>?_|(refine aN V ?_;clear V U)|refine aS ?_|refine aA ?_|refine blK ?_)
 generalize hL:bJ known time ds=L at *;refine AWP.iF (L.map evD) [(8,.ptr 1 0),(9,.ptr 2 0),(10,.ptr 4 0)] (fun j=>nj o0 ws (fV ws (L.take j) (cA ws))) (yU ws L (cA ws)) (runL o0 ws L (cA ws)) (fun rc=>hit rc _ _) (fun i hi=>absurd hi (Nat.not_lt_zero _)) rfl tI ?_ ?_ rfl ⟨rfl,rfl,rfl,tI⟩ rfl rfl (fun j hj=>⟨rfl,hS5 _⟩) ?_ ?_ ?_ ?_
 · intro x hx;obtain⟨d,_,rfl⟩:=zAq.1 hx;rfl
 · intro x hx;obtain⟨d,_,rfl⟩:=zAq.1 hx;rfl
 · rintro j x s ⟨_,rfl,_⟩;exact⟨rfl,hS6 _ _⟩
 · intro j x hx hp;have hj:j<L.length:=by
    rcases nLg j L.length with h|h
    · exact h
    · rw[zA3 (by rw[lLm];exact h)] at hx;cases hx
   obtain⟨d,hd9⟩:∃d,L.getD j default=d:=⟨_,rfl⟩
   obtain rfl:x=evD d:=by
    rw[zA5,zA1 hj] at hx;rw[←hd9,bb hj];exact(Option.some.inj hx).symm
   have hv:=hdo _ (hin j) d;have hsn:=CI ws L (cA ws) hj hd9;obtain⟨r1,hr1⟩:∃r1,fV ws (L.take j) (cA ws)=r1:=⟨_,rfl⟩
   obtain⟨q,hq⟩:∃q,doR ws r1 d=q:=⟨_,rfl⟩
   rw[hr1,hq] at hsn;have hrl:∀s,s=[o0,.var [.ptr 3 0],.var [.b false],.var (stC ws q.1),.var [.ptr 3 0]]→q.2≠0→runL o0 ws L (cA ws) j .ret s:=fun s hs hn9=>by
    refine⟨rfl,?_,hp,?_⟩
    · rw[hd9,hr1,hq];exact hs
    · rw[hd9,hr1,hq];exact hn9
   have hpn:q.2=0→yU ws L (cA ws) (j+1):=fun h9 i hi=>by
    by_cases hij:i<j
    · exact hp i hij
    · obtain rfl:i=j:=oM;rw[hd9,hr1,hq];exact h9
   rw[hr1,hq] at hv;clear hdo hit hin hra hrs hn hu;dsimp only;rw[hr1,hsn]
   repeat' (first|refine rgK fun U V=>?_|(refine aN V ?_;clear V U)|refine aS ?_|refine aA ?_)
   refine⟨rfl,?_⟩
   repeat' (first|refine qS ?_|apply sqW|refine rgK fun U V=>?_|refine aoE (scT (hv) rfl rfl rfl rfl rfl nd rfl rfl nds ?_)|refine blK ?_)
   rintro _ _ ⟨rfl,rfl⟩
   repeat' (first|refine qS ?_|apply sqW|refine rgK fun U V=>?_|(refine aN V ?_;clear V U)|refine aS ?_|refine cX ?_ ?_<;>intro hc<;>try simp only[dE] at hc|refine skW ?_|refine rtW ?_)
   · refine hrl _ rfl ?_;simpa using hc
   · exact⟨rfl,hpn (by simpa using hc)⟩
 · intro hp;rw[lLm] at hp ⊢;have Hf:=hra fun j hj=>hp j hj
   rw[Hf] at hR ⊢;rw[zBl]
   repeat' (first|refine qS ?_|apply sqW|refine rgK fun U V=>?_|(refine aN V ?_;clear V U)|refine aS ?_|refine rtW ?_)
   exact⟨.inr rfl,_,qq o0 ws (fV ws L (cA ws)) true,⟨rfl,rfl⟩,rfl,by simp,hok _ _,rfl,rfl⟩
 · rintro j x s hj ⟨rfl,rfl,hp,hn9⟩;rw[lLm] at hj;have Hf:=hrs j hj (fun i hi=>hp i hi) hn9;rw[Hf];exact⟨.inr rfl,_,qq o0 ws _ false,⟨rfl,rfl⟩,rfl,by simp,hok _ _,rfl,rfl⟩
theorem drop_cons {α:Type} [Inhabited α] {l:List α} {k:Nat} (h:k<l.length) {d:α} (hd:l.getD k default=d):l.drop k=d::l.drop (k+1):=by
 rw[zBj h,←hd,bb h]
def uN (o0:bc) (ws:List aV) (ds:List Dec):AV→ae→Prop:=fun rv s =>
 if kL ws ds=true then rv=.tup [.ptr 3 0,.b (fP ws (ds.length:Int) 1000000000 ds (cA ws)).2]∧s=qq o0 ws (fP ws (ds.length:Int) 1000000000 ds (cA ws)).1 (fP ws (ds.length:Int) 1000000000 ds (cA ws)).2
 else rv=.tup [.prim (.pointer none),.b false]∧s=[o0]
theorem L4 {o0:bc} (h0:OkA o0) (ws:List aV) (hl:ws.length≤1000000000) (hws:∀w∈ws,WIn w) (ds:List Dec) (hd:ds.length≤1000000000) :
 TCall Tryz.prog 45 [.sl 12 (ws.map aU) .no,.sl 6 (ds.map bx) .no] [o0] (uN o0 ws ds):=by
 have hw:=wj ws hl hws;have Hg:([o0]:ae).all (aD 1)=true:=by simp only[zB4,zBg,h0 1];rfl
 have hno:kL ws ds=false→uN o0 ws ds (.tup [.prim (.pointer none),.b false]) [o0]:=fun h=>by
  unfold uN;rw[if_neg (by rw[h];decide)];exact⟨rfl,rfl⟩
 have e1:decide ((ds.length:Int)>1000)=decide (ds.length>1000):=decide_eq_decide.2 oM;by_cases hg0:(!cC ws||decide (ds.length>1000))=true
 · have hgd:kL ws ds=false:=by unfold kL;rw[hg0];rfl
   have hno:=hno hgd;rw[←e1] at hg0;refine TCall.pO ab Tryz.func45 rfl rfl Tryz.ntmps45 rfl ?_
   repeat' (first|refine qP ?_ (h:=fun hg=>by first|exact aa|exact pc hw|exact af)|apply sqW|refine rgK fun U V=>?_|(refine aN V ?_;clear V U)|refine cX ?_ ?_<;>intro hc<;>try simp only[dE] at hc|refine blK ?_|refine skW ?_|refine rtW ?_)
   · exact⟨.inr rfl,_,[o0],hno,rfl,nLr _,Hg,rfl,rfl⟩
   all_goals exact absurd hg0 (by rw[show(!cC ws||decide ((ds.length:Int)>1000))=false from hc];decide)
 · have hg1:(!cC ws||decide (ds.length>1000))=false:=by simpa using hg0
   have hg2:=hg1;rw[←e1] at hg2;have hwo:cC ws=true:=by
    cases h:cC ws with
    |true=>rfl
    |false=>rw[h] at hg1;cases hg1
   have hgd:kL ws ds=kT 0 0 ds:=by unfold kL;rw[hg1];rfl
   rw[hgd] at hno;have bl:=TCall.val (first:=[]) (aQ:=[]) (avs:=[.sl 12 (ws.map aU) .no,.sl 6 (ds.map bx) .no,.int ds.length,.int 1000000000]) (H4 h0 ws hwo hl hws ds hd (ds.length:Int) 1000000000);have nk:kT 0 0 ds=true→uN o0 ws ds (.tup [.ptr 3 0,.b (fP ws (ds.length:Int) 1000000000 ds (cA ws)).2]) (qq o0 ws (fP ws (ds.length:Int) 1000000000 ds (cA ws)).1 (fP ws (ds.length:Int) 1000000000 ds (cA ws)).2):=fun h=>by
    unfold uN;rw[hgd,if_pos h];exact⟨rfl,rfl⟩
   have oa:∀r ok,(qq o0 ws r ok).all (aD 4)=true:=fun r ok=>by
    simp only[zB4,zBg,h0 4,eP ws r 4];rfl
   generalize fP ws (ds.length:Int) 1000000000 ds (cA ws)=R at *;refine TCall.pO ab Tryz.func45 rfl rfl Tryz.ntmps45 rfl ?_
   repeat' (first|refine qP ?_ (h:=fun hg=>by first|exact aa|exact pc hw|exact af)|apply sqW|refine rgK fun U V=>?_|(refine aN V ?_;clear V U)|refine cX ?_ ?_<;>intro hc<;>try simp only[dE] at hc|refine blK ?_|refine skW ?_|refine rtW ?_)
   · exact absurd hg2 (by rw[show(!cC ws||decide ((ds.length:Int)>1000))=true from hc];decide)
   clear hc
   refine lpD (ι:=Nat×Int) (fun i=>[(0,.sl 12 (ws.map aU) .no),(1,.sl 6 (ds.map bx) .no),(6,.int i.2),(17,.sl 6 (ds.map bx) .no),(18,.int ds.length),(19,.int i.1)]) (fun _=>[o0])
    (fun i=>i.1≤ds.length∧kT 0 0 ds=kT i.1 i.2 (ds.drop i.1)) (fun i=>ds.length - i.1) 1 (fun _=>rfl) (0,0) ⟨nZl _,rfl⟩ ⟨rfl,rfl,rfl,rfl,rfl,rfl,tI⟩ rfl (fun k _=>rfl) (fun k hk=>Hg) ?_
   rintro⟨k,last⟩ ⟨hk,hin⟩;dsimp only at hk hin ⊢;rcases nLg k ds.length with hlt|hge
   · obtain⟨d,hd9⟩:∃d,ds.getD k default=d:=⟨_,rfl⟩
     rw[drop_cons hlt hd9] at hin;have hin2:kT k last (d::ds.drop (k+1))=(qK k last d&&kT ((k+1:Nat):Int) d.time (ds.drop (k+1))):=rfl;rw[hin2] at hin;have ht:=rr d.time;have eb:(d.number != (k:Int)+1)=decide (d.number≠(k:Int)+1):=by rw[zAi];simp
     clear bl
     repeat' (first|refine qP ?_ (h:=fun hg=>by first|exact iX bx ds ((k:Nat):Int) hd9 (hb:=oM)|exact aa|exact pc ht|exact af)|apply sqW|refine rgK fun U V=>?_|(refine aN V ?_;clear V U)|refine aS ?_|refine aA ?_|refine cX ?_ ?_<;>intro hc<;>try simp only[dE] at hc|refine blK ?_|refine exW ?_|refine skW ?_|refine rtW ?_)
     all_goals (first|(exfalso;omega)|skip)
     · have h9:qK k last d=false:=by
        unfold qK;rw[eb] at hc;rw[show(decide (d.number≠(k:Int)+1)||decide (d.time<last)||!jV d.time)=true from hc];rfl
       rw[h9] at hin;exact⟨.inr rfl,_,[o0],hno hin,rfl,nLr _,Hg,rfl,rfl⟩
     · have h9:qK k last d=true:=by
        unfold qK;rw[eb] at hc;rw[show(decide (d.number≠(k:Int)+1)||decide (d.time<last)||!jV d.time)=false from hc];rfl
       rw[h9,zAy] at hin;exact⟨(k+1,d.time),⟨hlt,hin⟩,by dsimp only;omega,⟨rfl,rfl,rfl,rfl,rfl,rfl,tI⟩,rfl⟩
   · obtain rfl:k=ds.length:=oM;rw[List.drop_length] at hin
     repeat' (first|refine qT ?_|apply sqW|refine rgK fun U V=>?_|(refine aN V ?_;clear V U)|refine aS ?_|refine aA ?_|refine aoE (scT (bl) rfl rfl rfl rfl rfl nd rfl rfl nds ?_)|refine cX ?_ ?_<;>intro hc<;>try simp only[dE] at hc|refine blK ?_|refine exW ?_|refine skW ?_)
     all_goals (first|(exfalso;omega)|skip)
     rintro _ _ ⟨rfl,rfl⟩
     repeat' (first|refine qS ?_|(refine aN V ?_;clear V U)|refine rtW ?_)
     exact⟨.inr rfl,_,qq o0 ws R.1 R.2,nk hin,rfl,by simp,oa _ _,rfl,rfl⟩
theorem KA:OkA .dead:=fun m=>rfl
theorem vP (ws:List aV) (hl:ws.length≤1000000000) (hws:∀w∈ws,WIn w) (ds:List Dec) (hd:ds.length≤1000000000) :
 PCall Tryz.prog 45 [.sl 12 (ws.map aU) .no,.sl 6 (ds.map bx) .no] (.tup [.any,.b (jr ws ds)]):=by
 refine PCall.ofT (TCall.dummy (L4 KA ws hl hws ds hd)) ?_;intro rv s M B v hq hv;have key:∀a ok,ag M B (.tup [a,.b ok]) v→ag M [] (.tup [.any,.b ok]) v:=fun a ok h=>by
  cases h with
  | tup _ vs hl h =>
    refine .tup _ vs hl fun i c hc=>?_
    match i,hc with
    |0,hc=>cases hc;exact .any _
    | 1, hc =>
      cases hc;have:=h 1 _ rfl;generalize vs.getD 1 undef=x at this ⊢;cases this;exact .prim _
 unfold uN at hq;unfold jr;cases hg:kL ws ds with
 | true =>
   rw[hg,if_pos rfl] at hq;rw[hq.1] at hv;exact key _ _ hv
 | false =>
   rw[hg,if_neg dCd] at hq;rw[hq.1] at hv;exact key _ _ hv
def bt (r:Room):List AV:=[.int r.version,.int r.form.bars,.sl 3 (r.form.ar.map ba) .no,.sl 3 (r.form.ends.map ck) .no,.int r.form.jump.at_,.int r.form.jump.to,.int r.form.jump.ch,.sl 3 (r.form.cuts.map aM) .no,.sl 1 (r.aZ.map eI) .no]
theorem Hh {x:Int}:Ent (.tup [.agg [.int 0,.int 0,.nils,.nils,.int 0,.int 0,.int 0,.nils,.nils],.int x]) (.tup [.agg (bt noRoom),.int x]):=by
 refine Ent.jl (Ent.agg rfl fun i a b ha hb=>?_) (Ent.of rfl)
 match i,ha,hb with
 |0,ha,hb=>cases ha;cases hb;exact Ent.of rfl
 |1,ha,hb=>cases ha;cases hb;exact Ent.of rfl
 |2,ha,hb=>cases ha;cases hb;exact Ent.nil
 |3,ha,hb=>cases ha;cases hb;exact Ent.nil
 |4,ha,hb=>cases ha;cases hb;exact Ent.of rfl
 |5,ha,hb=>cases ha;cases hb;exact Ent.of rfl
 |6,ha,hb=>cases ha;cases hb;exact Ent.of rfl
 |7,ha,hb=>cases ha;cases hb;exact Ent.nil
 |8,ha,hb=>cases ha;cases hb;exact Ent.nil
 |(n+9),ha,hb=>simp at ha
theorem nq (ws:List aV) (ds:List Dec) (hl:ws.length≤1000000000) (hws:∀w∈ws,WIn w) (hd:ds.length≤1000000000) (known time:Int) :
 PCall Tryz.prog 18 [.sl 12 (ws.map aU) .no,.sl 6 (ds.map bx) .no,.int known,.int time] (.tup [.agg (bt (atR ws ds known time).1),.int (atR ws ds known time).2]):=by
 have ha:=vP ws hl hws ds hd;have ht:=rr time;unfold atR;by_cases hc0:(!jr ws ds||decide (known<0)||decide (known>(ds.length:Int))||!jV time)=true
 · rw[if_pos hc0];dsimp only;refine PCall.bN ab Tryz.func18 rfl rfl Tryz.ntmps18 rfl ?_
   repeat' (first|refine qP ?_ (h:=fun hg=>by first|exact aa|exact pc ha|exact pc ht|exact pbD ab rfl rfl nds|exact af)|apply sqW|refine rgK fun U V=>?_|(refine aN V ?_;clear V U)|refine aS ?_|refine aA ?_|refine cX ?_ ?_<;>intro hc<;>try simp only[dE] at hc|refine skW ?_|refine rtW ?_)
   · exact⟨.inr rfl,_,rfl,Hh⟩
   all_goals exact absurd hc0 (by rw[show(!jr ws ds||decide (known<0)||decide (known>(ds.length:Int))||!jV time)=false from hc];decide)
 · rw[if_neg hc0];dsimp only;have hal:jr ws ds=true:=by
    cases h:jr ws ds with
    |true=>rfl
    |false=>rw[h] at hc0;exact absurd rfl hc0
   have hwo:cC ws=true:=by
    unfold jr kL at hal;cases h:cC ws with
    |true=>rfl
    |false=>rw[h] at hal;cases hal
   have oz:OkA (.var [.int 0,.int 0,.nils,.nils,.int 0,.int 0,.int 0,.nils,.nils]):=fun m=>rfl
   have bl:=TCall.val (first:=[]) (aQ:=[]) (avs:=[.sl 12 (ws.map aU) .no,.sl 6 (ds.map bx) .no,.int known,.int time]) (H4 oz ws hwo hl hws ds hd known time);generalize fP ws known time ds (cA ws)=R at *;refine PCall.bN ab Tryz.func18 rfl rfl Tryz.ntmps18 rfl ?_
   repeat' (first|refine qP ?_ (h:=fun hg=>by first|exact aa|exact pc ha|exact pc ht|exact pbD ab rfl rfl nds|exact af)|apply sqW|refine rgK fun U V=>?_|(refine aN V ?_;clear V U)|refine aS ?_|refine aA ?_|refine aoE (scT (bl) rfl rfl rfl rfl rfl nd rfl rfl nds ?_)|refine cX ?_ ?_<;>intro hc<;>try simp only[dE] at hc|refine skW ?_|refine rtW ?_)
   · exact absurd (show _=true from hc) hc0
   rintro _ _ ⟨rfl,rfl⟩
   repeat' (first|refine qT ?_|apply sqW|refine rgK fun U V=>?_|(refine aN V ?_;clear V U)|refine aS ?_|refine rtW ?_)
   exact⟨.inr rfl,_,rfl,Ent.of rfl⟩
end Go.Proofs.YthiaimakjmhegaaGreatDoor.De
namespace Go.Proofs.YthiaimakjmhegaaGreatDoor.Top
open Go.Ab Go.Jo Go.Sy Go.Sort Go.Pl Al Mk Cy De Pl
attribute [local irreducible] AWP AOps EStep AQ PStep PRun PCall TCall VCall
def bK (r:Room) (s:Std) (all:AV) (sc:Score):List AV:=[.int r.version,.int r.form.bars,.sl 3 (r.form.ar.map ba) .no,.sl 3 (r.form.ends.map ck) .no,.int r.form.jump.at_,.int r.form.jump.to,.int r.form.jump.ch,.sl 3 (r.form.cuts.map aM) .no,.sl 1 (r.aZ.map eI) .no,
 .int s.id,.int s.who.part,.int s.who.jm,.int s.who.jn,.int s.ed,.int s.known,.sl 14 (s.evs.map aF) .no,all,.int sc.version,.sl 4 (sc.bars.map cS) .no,.sl 13 (sc.parts.map bz) .no,.sl 12 (sc.notes.map bQ) .no]
def L5 (r:Room) (s:Std) (all:AV):List AV:=[.int r.version,.int r.form.bars,.sl 3 (r.form.ar.map ba) .no,.sl 3 (r.form.ends.map ck) .no,.int r.form.jump.at_,.int r.form.jump.to,.int r.form.jump.ch,.sl 3 (r.form.cuts.map aM) .no,.sl 1 (r.aZ.map eI) .no,
 .int s.id,.int s.who.part,.int s.who.jm,.int s.who.jn,.int s.ed,.int s.known,.sl 14 (s.evs.map aF) .no,all,.int 0,.nils,.nils,.nils]
abbrev zFc:List AV:=[.int 0,.int 0,.nils,.nils,.int 0,.int 0,.int 0,.nils,.nils,.int 0,.int 0,.int 0,.int 0,.int 0,.int 0,.nils,.nils,.int 0,.nils,.nils,.nils]
def eG (ws:List aV) (ds:List Dec) (s:Std) (time:Int):Int :=
 if iw s=false then 1 else if (atR ws ds s.known time).2≠0 then (atR ws ds s.known time).2 else if (ws.all fun w=>bG w.score)=true then 0 else 1
def FcS (r:Room) (s:Std) (A:List (List AV)) (n:Nat):ae:=[.var (aR s),.var [.int 0,.int 0,.nils,.nils,.int 0,.int 0,.int 0,.nils,.nils,.int 0,.int 0,.int 0,.int 0,.int 0,.int 0,.nils,.nils,.int 0,.nils,.nils,.nils],.var (De.bt r),.var (L5 r s (.sl 4 A (.own 4))),.own 4 n]
theorem CJ (ws:List aV) (ds:List Dec) (s:Std) (time:Int) (hl:ws.length≤1000000000) (hws:∀w∈ws,WIn w) (hd:ds.length≤1000000000) (ht:Txt s.evs) (hle:s.evs.length≤1000000000) (h0:eG ws ds s time=0) {k:Nat} {sc:Score} (hf:fg (bp ws) (atR ws ds s.known time).1.version=k) (hs:atS (bp ws) k=sc) :
 PCall Tryz.prog 25 [.sl 12 (ws.map aU) .no,.sl 6 (ds.map bx) .no,.agg (aR s),.int time] (.tup [.agg (bK (atR ws ds s.known time).1 s (.sl 4 ((bp ws).map bg) .no) sc),.int 0]):=by
 have hv:=dz s ht hle;have ha:=nq ws ds hl hws hd s.known time;have hvs:iw s=true:=by
  cases h:iw s with
  |true=>rfl
  |false=>unfold eG at h0;rw[h] at h0;cases h0
 unfold eG at h0;rw[hvs,if_neg dCd] at h0;have ha0:(atR ws ds s.known time).2=0:=by
  by_cases h:(atR ws ds s.known time).2≠0
  · rw[if_pos h] at h0;exact absurd h0 h
  · omega
 rw[ha0,if_neg dCd] at h0;have au:∀w∈ws,bG w.score=true:=by
  cases h:(ws.all fun w=>bG w.score) with
  |true=>exact zA4.1 h
  |false=>rw[h] at h0;cases h0
 rw[hvs] at hv;have hfs:=zS (bp ws) (by simp;omega) (atR ws ds s.known time).1.version;have hg:yn (bp ws) (atR ws ds s.known time).1.version=bg sc:=by unfold yn;rw[hf,if_neg oM,zAe,hs]
 rw[hg,hf] at hfs;rw[ha0] at ha;generalize (atR ws ds s.known time).1=r at *;refine PCall.bN ab Tryz.func25 rfl rfl Tryz.ntmps25 rfl ?_
 repeat' (first|refine qP ?_ (h:=fun hg=>by first|exact aa|exact pc hv|exact pc ha|exact pbD ab rfl rfl nds|exact af)|apply sqW|refine rgK fun U V=>?_|(refine aN V ?_;clear V U)|refine aB ?_|refine aS ?_|refine aA ?_|refine cX ?_ ?_<;>intro hc<;>try simp only[dE] at hc|refine blK ?_|refine skW ?_|refine rtW ?_)
 all_goals (first|(exfalso;simp at hc;done)|skip)
 refine AWP.nt (v:=3) (i:=16) (sz:=4) rfl rfl ?_
 refine lpD (ι:=Nat) (fun k=>[(0,.sl 12 (ws.map aU) .no),(6,.ptr 0 0),(8,.ptr 1 0),(12,.ptr 3 0),(35,.sl 12 (ws.map aU) .no),(36,.int ws.length),(37,.int k)]) (fun k=>FcS r s ((bp (ws.take k)).map bg) ((bp (ws.take k)).map bg).length)
  (fun k=>k≤ws.length) (fun k=>ws.length - k) 5 (fun _=>rfl) 0 (nZl _) ⟨rfl,rfl,rfl,rfl,rfl,rfl,rfl,tI⟩ rfl (fun _ _=>rfl) (fun _ _=>rfl) ?_
 intro k hk;by_cases hlt:k<ws.length
 · obtain⟨w,hw⟩:∃w,ws.getD k default=w:=⟨_,rfl⟩
   have hst:=sD hlt hw;have hm:w∈ws:=by rw[←hw];exact dD hlt
   have hvw:=_root_.Go.Proofs.YthiaimakjmhegaaGreatDoor.dz w.score (hws w hm).score;rw[au w hm] at hvw;have hlen:((bp (ws.take k)).map bg).length=k:=by simp;omega
   generalize (bp (ws.take k)).map bg=A at *
   repeat' (first|refine qP ?_ (h:=fun hg=>by first|exact iX aU ws ((k:Nat):Int) hw (hb:=oM)|exact aa|exact pc hvw|exact pbS ab rfl rfl nds|fail)|apply sqW|refine rgK fun U V=>?_|(refine aN V ?_;clear V U)|refine aS ?_|refine aA ?_|refine aoE (apO ab rfl rfl rfl dCd (Rd.w rfl tI) rfl (Rd.w rfl tI) (.sl rfl (by first|(intro x hx;rcases zA9.1 hx with rfl;rfl)|exact one_by8 _|exact dV _)) (lkG rfl) (lkG rfl) rfl rfl (by simp only[lLm,lLa,zAd,zAm];omega) (by simp only[lLm,lLa,zAd,zAm];omega) ?_)|refine cX ?_ ?_<;>intro hc<;>try simp only[dE] at hc|refine blK ?_|refine exW ?_|refine skW ?_)
   all_goals (first|exact dd|skip)
   refine⟨k+1,hlt,oM,⟨rfl,rfl,rfl,rfl,rfl,rfl,rfl,tI⟩,?_⟩;rw[←hst];rfl
 · obtain rfl:k=ws.length:=oM;rw[zBl]
   repeat' (first|refine qP ?_ (h:=fun hg=>by first|exact aa|exact pc hfs|exact af)|apply sqW|refine rgK fun U V=>?_|(refine aN V ?_;clear V U)|refine aS ?_|refine aA ?_|refine cX ?_ ?_<;>intro hc<;>try simp only[dE] at hc|refine blK ?_|refine exW ?_|refine skW ?_|refine rtW ?_)
   all_goals (first|exact dd|skip)
   exact⟨.inr rfl,_,rfl,Ent.of rfl⟩
theorem CK (ws:List aV) (ds:List Dec) (s:Std) (time:Int) (hl:ws.length≤1000000000) (hws:∀w∈ws,WIn w) (hd:ds.length≤1000000000) (ht:Txt s.evs) (hle:s.evs.length≤1000000000) (h0:eG ws ds s time≠0) :
 PCall Tryz.prog 25 [.sl 12 (ws.map aU) .no,.sl 6 (ds.map bx) .no,.agg (aR s),.int time] (.tup [.agg zFc,.int (eG ws ds s time)]):=by
 have hv:=dz s ht hle;have ha:=nq ws ds hl hws hd s.known time;unfold eG at h0 ⊢;cases hvs:iw s with
 | false =>
   rw[hvs] at hv;rw[if_pos rfl];clear ha;refine PCall.bN ab Tryz.func25 rfl rfl Tryz.ntmps25 rfl ?_
   repeat' (first|refine qP ?_ (h:=fun hg=>by first|exact aa|exact pc hv|exact pbD ab rfl rfl nds|fail)|apply sqW|refine rgK fun U V=>?_|(refine aN V ?_;clear V U)|refine aB ?_|refine aS ?_|refine aA ?_|refine cX ?_ ?_<;>intro hc<;>try simp only[dE] at hc|refine skW ?_|refine rtW ?_)
   · exact⟨.inr rfl,_,rfl,Ent.of rfl⟩
   all_goals (exfalso;simp at hc;done)
 | true =>
   rw[hvs] at hv h0;rw[if_neg dCd] at h0 ⊢;by_cases he:(atR ws ds s.known time).2≠0
   · rw[if_pos he];generalize (atR ws ds s.known time).2=e at *;generalize (atR ws ds s.known time).1=r at *;refine PCall.bN ab Tryz.func25 rfl rfl Tryz.ntmps25 rfl ?_
     repeat' (first|refine qP ?_ (h:=fun hg=>by first|exact aa|exact pc hv|exact pc ha|exact pbD ab rfl rfl nds|exact af)|apply sqW|refine rgK fun U V=>?_|(refine aN V ?_;clear V U)|refine aB ?_|refine aS ?_|refine aA ?_|refine cX ?_ ?_<;>intro hc<;>try simp only[dE] at hc|refine blK ?_|refine skW ?_|refine rtW ?_)
     · exfalso;simp at hc;done
     · exact⟨.inr rfl,_,rfl,Ent.of rfl⟩
     all_goals (exfalso;simp at hc;omega)
   · rw[if_neg he] at h0 ⊢;have ha0:(atR ws ds s.known time).2=0:=oM;rw[ha0] at ha;generalize (atR ws ds s.known time).1=r at *;have jA:(ws.all fun w=>bG w.score)=false:=by
      cases h:(ws.all fun w=>bG w.score) with
      |false=>rfl
      |true=>rw[h,if_pos rfl] at h0;exact absurd rfl h0
     rw[if_neg (by rw[jA];decide)];have hbad:∃j,j<ws.length∧bG (ws.getD j default).score=false:=by
      rw[zC6] at jA;obtain⟨w,hw,h9⟩:=jA;obtain⟨j,hj,rfl⟩:=zAu.1 hw;exact⟨j,hj,by rw[bb hj];simpa using h9⟩
     clear jA h0 he;refine PCall.bN ab Tryz.func25 rfl rfl Tryz.ntmps25 rfl ?_
     repeat' (first|refine qP ?_ (h:=fun hg=>by first|exact aa|exact pc hv|exact pc ha|exact pbD ab rfl rfl nds|exact af)|apply sqW|refine rgK fun U V=>?_|(refine aN V ?_;clear V U)|refine aB ?_|refine aS ?_|refine aA ?_|refine cX ?_ ?_<;>intro hc<;>try simp only[dE] at hc|refine blK ?_|refine skW ?_|refine rtW ?_)
     all_goals (first|(exfalso;simp at hc;done)|skip)
     refine AWP.nt (v:=3) (i:=16) (sz:=4) rfl rfl ?_
     refine lpD (ι:=Nat) (fun k=>[(0,.sl 12 (ws.map aU) .no),(6,.ptr 0 0),(8,.ptr 1 0),(12,.ptr 3 0),(35,.sl 12 (ws.map aU) .no),(36,.int ws.length),(37,.int k)]) (fun k=>FcS r s ((bp (ws.take k)).map bg) ((bp (ws.take k)).map bg).length)
      (fun k=>k≤ws.length∧∀j,j<k→bG (ws.getD j default).score=true) (fun k=>ws.length - k) 5 (fun _=>rfl) 0 ⟨nZl _,fun j h=>absurd h (Nat.not_lt_zero _)⟩ ⟨rfl,rfl,rfl,rfl,rfl,rfl,rfl,tI⟩ rfl (fun _ _=>rfl) (fun _ _=>rfl) ?_
     rintro k ⟨hk,au⟩;have hlt:k<ws.length:=by
      obtain⟨j,hj,h9⟩:=hbad;rcases nLg j k with h|h
      · rw[au j h] at h9;cases h9
      · omega
     obtain⟨w,hw⟩:∃w,ws.getD k default=w:=⟨_,rfl⟩
     have hst:=sD hlt hw;have hm:w∈ws:=by rw[←hw];exact dD hlt
     have hvw:=_root_.Go.Proofs.YthiaimakjmhegaaGreatDoor.dz w.score (hws w hm).score;have hlen:((bp (ws.take k)).map bg).length=k:=by simp;omega
     generalize (bp (ws.take k)).map bg=A at *;cases hgo:bG w.score with
     | false =>
       rw[hgo] at hvw
       repeat' (first|refine qP ?_ (h:=fun hg=>by first|exact iX aU ws ((k:Nat):Int) hw (hb:=oM)|exact aa|exact pc hvw|exact pbD ab rfl rfl nds|fail)|apply sqW|refine rgK fun U V=>?_|(refine aN V ?_;clear V U)|refine aS ?_|refine aA ?_|refine cX ?_ ?_<;>intro hc<;>try simp only[dE] at hc|refine blK ?_|refine exW ?_|refine skW ?_|refine rtW ?_)
       all_goals (first|exact dd|skip)
       exact⟨.inr rfl,_,rfl,Ent.of rfl⟩
     | true =>
       rw[hgo] at hvw
       repeat' (first|refine qP ?_ (h:=fun hg=>by first|exact iX aU ws ((k:Nat):Int) hw (hb:=oM)|exact aa|exact pc hvw|exact pbS ab rfl rfl nds|exact pbD ab rfl rfl nds|fail)|apply sqW|refine rgK fun U V=>?_|(refine aN V ?_;clear V U)|refine aS ?_|refine aA ?_|refine aoE (apO ab rfl rfl rfl dCd (Rd.w rfl tI) rfl (Rd.w rfl tI) (.sl rfl (by first|(intro x hx;rcases zA9.1 hx with rfl;rfl)|exact one_by8 _|exact dV _)) (lkG rfl) (lkG rfl) rfl rfl (by simp only[lLm,lLa,zAd,zAm];omega) (by simp only[lLm,lLa,zAd,zAm];omega) ?_)|refine cX ?_ ?_<;>intro hc<;>try simp only[dE] at hc|refine blK ?_|refine exW ?_|refine skW ?_|refine rtW ?_)
       all_goals (first|exact dd|skip)
       refine⟨k+1,⟨hlt,fun j hj=>?_⟩,oM,⟨rfl,rfl,rfl,rfl,rfl,rfl,rfl,tI⟩,?_⟩
       · by_cases h:j<k
         · exact au j h
         · obtain rfl:j=k:=oM;rw[hw];exact hgo
       · rw[←hst];rfl
end Go.Proofs.YthiaimakjmhegaaGreatDoor.Top
namespace Go.Proofs.YthiaimakjmhegaaGreatDoor.Top
open Go.Ab Go.Jo Go.Pl De Pl
attribute [local irreducible] AWP AOps EStep AQ PStep PRun PCall TCall VCall
def eC (l:List Int):List (Int×Bool):=l.foldl (fun al x=>ins al x true) []
theorem yW {k:Int}:∀(al:List (Int×Bool)),(ins al k true).map (·.1)=if k∈al.map (·.1) then al.map (·.1) else al.map (·.1)++[k]
 |[]=>by simp[ins]
 | (a, b) :: r => by
   have ih:=yW (k:=k) r;unfold ins;by_cases h:a=k
   · subst h;simp
   · rw[if_neg h,zBt,ih];have h':¬k=a:=fun e=>h e.symm
     by_cases h2:k∈r.map (·.1)
     · rw[if_pos h2,if_pos (by rw[zBt,zAo];exact .inr h2),zBt]
     · rw[if_neg h2,if_neg (by rw[zBt,zAo];rintro(e|e);exact h' e;exact h2 e),zBt,zDe]
theorem yX (l:List Int) (x:Int):eC (l++[x])=ins (eC l) x true:=by unfold eC;rw[zCl];rfl
theorem A1:∀(n:Nat) (l:List Int),l.length=n→(∀x,x∈(eC l).map (·.1)↔x∈l)∧(eC l).length≤l.length∧((eC l).length=l.length↔l.Nodup)
 | 0, l, h => by
   obtain rfl:=zDc.1 h;exact⟨fun x=>by simp[eC],nLr _,by simp[eC]⟩
 | n + 1, l, h => by
   obtain⟨m,y,rfl⟩:∃m y,l=m++[y]:=⟨l.dropLast,l.getLast (by intro e;rw[e] at h;cases h),(List.dropLast_concat_getLast _).symm⟩
   have hm:m.length=n:=by simp at h;exact h
   obtain⟨h1,h2,h3⟩:=A1 n m hm;have hk:=yW (k:=y) (eC m);have hlen:(ins (eC m) y true).length=((ins (eC m) y true).map (·.1)).length:=sMp;rw[yX,hk];by_cases hy:y∈m
   · rw[if_pos ((h1 y).2 hy)] at hk ⊢;rw[hlen,hk,lLm,lLa];refine⟨fun x=>?_,by simp;omega,?_⟩
     · rw[h1,zAx,zA9];constructor
       · exact .inl
       · rintro(e|rfl)
         · exact e
         · exact hy
     · constructor
       · intro e;simp at e;omega
       · intro e;rw[zC7] at e;exact absurd rfl (e.2.2 y hy y (zA9.2 rfl))
   · rw[if_neg (fun e=>hy ((h1 y).1 e))] at hk ⊢;rw[hlen,hk,lLa,lLa,lLm];refine⟨fun x=>?_,by simp;omega,?_⟩
     · rw[zAx,zAx,h1]
     · simp only[zBb];rw[show(eC m).length+1=m.length+1↔(eC m).length=m.length from by omega,h3,zC7];constructor
       · intro e;refine⟨e,by simp,fun a ha b hb e2=>?_⟩;rw[zA9] at hb;subst hb;subst e2;exact hy ha
       · exact fun e=>e.1
theorem vQ (l:List Int):decide (((eC l).length:Int)=(l.length:Int))=decide l.Nodup:=by
 rw[zAi,dEt,dEt,←(A1 l.length l rfl).2.2];omega
theorem yY {α:Type} [Inhabited α] (f:α→Int) (l:List α) {k:Nat} (hk:k<l.length):eC ((l.take (k+1)).map f)=ins (eC ((l.take k).map f)) (f (l.getD k default)) true:=by
 rw[zBn hk,zBw,List.map_singleton,yX,bb hk]
theorem L6:Ed.eB ⟨#[65]⟩=true:=dCd
theorem yZ (e:Ed.ah) (hw:Ed.Wf e):PCall Tryz.prog 71 [.agg (Ed.aF e)] (.b (Ed.bE e)):=by
 have h:=Ed.xU e hw ⟨#[65]⟩ dCd;have h2:decide ((Ed.gR e ⟨#[65]⟩).2≠1)=Ed.bE e:=by
  unfold Ed.gR;rw[L6,zCf];cases Ed.bE e
  · rfl
  · rw[if_pos rfl];cases lk (Ed.ca e.letters) ⟨#[65]⟩<;>rfl
 rw[←h2];refine PCall.body Tryz.func71 rfl rfl Tryz.ntmps71 rfl rfl ?_
 repeat' (first|refine qP ?_ (h:=fun hg=>by first|exact aa|exact pc h|fail)|apply sqW|refine rgK fun U V=>?_|(refine aN V ?_;clear V U)|refine aB ?_|refine rtW ?_)
 refine⟨.inr rfl,Ent.b ?_⟩;rw[tK]
theorem Ff (e:Ed.ah) (hw:Ed.Wf e):PCall Tryz.prog 70 [.agg (Ed.aF e)] (.b (!Ed.bE e)):=by
 have h:=yZ e hw;refine PCall.body Tryz.func70 rfl rfl Tryz.ntmps70 rfl rfl ?_
 repeat' (first|refine qP ?_ (h:=fun hg=>by first|exact aa|exact pc h|fail)|apply sqW|refine rgK fun U V=>?_|(refine aN V ?_;clear V U)|refine aB ?_|refine rtW ?_)
 exact⟨.inr rfl,Ent.b rfl⟩
theorem CL (l:List Ed.ah) (fv:AV) (p:Ed.ah→Bool) (hp:∀x∈l,bF Tryz.prog fv [.agg (Ed.aF x)] (.b (p x))) (hl:l.length≤1000000000) :
 PCall Tryz.prog 72 [.sl 4 (l.map Ed.aF) .no,fv] (.b (decide (az p l≥0))):=by
 have h:=oX l fv p hp hl;refine PCall.di [1] Tryz.func72 rfl rfl Tryz.ntmps72 rfl rfl ?_
 repeat' (first|refine qP ?_ (h:=fun hg=>by first|exact aa|exact pc h|fail)|apply sqW|refine rgK fun U V=>?_|(refine aN V ?_;clear V U)|refine rtW ?_)
 exact⟨.inr rfl,Ent.b rfl⟩
def oY (es:List Ed.ah):Bool:=decide (es.length≤12)&&decide ((es.map (·.id)).Nodup)&&es.all Ed.bE
theorem CM (es:List Ed.ah) (hl:es.length≤1000000000) (hf:∀e∈es,Ed.Wf e):PCall Tryz.prog 26 [.sl 4 (es.map Ed.aF) .no] (.b (oY es)):=by
 have h:=CL es (.fn (.func 70) [] []) (fun e=>!Ed.bE e) (fun x hx=>⟨_,[],_,rfl,Ff x (hf x hx)⟩) hl;refine PCall.body Tryz.func26 rfl rfl Tryz.ntmps26 rfl rfl ?_
 repeat' (first|refine qT ?_|apply sqW|refine rgK fun U V=>?_|(refine aN V ?_;clear V U)|refine aoE (EStep.dn rfl rfl rfl rfl ?_)|refine blK ?_)
 refine lpD (ι:=Nat) (fun k=>[(0,.sl 4 (es.map Ed.aF) .no),(3,.map 0),(8,.sl 4 (es.map Ed.aF) .no),(9,.int es.length),(10,.int k)]) (fun k=>[.map (Go.Ab.aT ekI AV.b (eC ((es.take k).map (·.id))))])
  (fun k=>k≤es.length) (fun k=>es.length - k) 1 (fun _=>rfl) 0 (nZl _) ⟨rfl,rfl,rfl,rfl,rfl,tI⟩ rfl (fun _ _=>rfl) (fun k _=>by simp[aD,aT,aO]) ?_
 intro k hk;by_cases hlt:k<es.length
 · obtain⟨e,he⟩:∃e,es.getD k default=e:=⟨_,rfl⟩
   have hs:=yY (fun e:Ed.ah=>e.id) es hlt;rw[he] at hs
   repeat' (first|refine qP ?_ (h:=fun hg=>by first|exact PRun.eq (v:=.iptr (Ed.aF (es.getD ((k:Nat):Int).toNat default))) (piW ab rfl rfl nd rfl nd rfl rfl oM) (congrArg (fun x=>AV.iptr (Ed.aF x)) (show es.getD ((k:Nat):Int).toNat default=e from he))|exact aa|exact af)|apply sqW|refine rgK fun U V=>?_|(refine aN V ?_;clear V U)|refine aS ?_|refine aA ?_|refine aoE (EStep.fu (ek:=ekI) (ev:=AV.b) (v:=true) (aL (lkG rfl)) (lkG rfl) rfl rfl rfl (Rd.w rfl tI) rfl (Rd.w rfl tI) rfl (Rd.w rfl tI) ?_)|refine cX ?_ ?_<;>intro hc<;>try simp only[dE] at hc|refine blK ?_|refine exW ?_|refine skW ?_)
   all_goals (first|exact dd|skip)
   exact⟨k+1,hlt,oM,⟨rfl,rfl,rfl,rfl,rfl,tI⟩,by rw[hs];rfl⟩
 · obtain rfl:k=es.length:=oM;rw[zBl];have hn:=vQ (es.map (·.id));rw[lLm] at hn
   repeat' (first|refine qP ?_ (h:=fun hg=>by first|exact aa|exact pc h|exact PRun.sM (ek:=ekI) (ev:=AV.b) rfl (Rd.w rfl nd) (Or.inr ⟨_,rfl,rfl⟩) (lkG rfl)|exact af)|apply sqW|refine rgK fun U V=>?_|(refine aN V ?_;clear V U)|refine aS ?_|refine aA ?_|refine cX ?_ ?_<;>intro hc<;>try simp only[dE] at hc|refine blK ?_|refine exW ?_|refine skW ?_|refine rtW ?_)
   all_goals (first|exact dd|skip)
   refine⟨.inr rfl,Ent.b ?_⟩;unfold oY;rw[Ed.gq,show(((eC (es.map fun x=>x.id)).length:Int)==(es.length:Int))=decide ((es.map (·.id)).Nodup) from hn];rw[show(decide ((es.length:Int)≤12))=decide (es.length≤12) from by rw[zAi];simp;omega];simp only[Bool.not_not]
end Go.Proofs.YthiaimakjmhegaaGreatDoor.Top
namespace Go.Proofs.YthiaimakjmhegaaGreatDoor.Top
open Go.Ab Go.Jo Go.Sy Go.Pl Al Cy De Pl
attribute [local irreducible] AWP AOps EStep AQ PStep PRun PCall TCall VCall
theorem Hi (e:Ed.ah):PCall Tryz.prog 28 [.agg (Ed.aF e)] (.int e.id):=by
 refine PCall.body Tryz.func28 rfl rfl Tryz.ntmps28 rfl rfl ?_
 repeat' (first|refine qS ?_|apply sqW|refine rgK fun U V=>?_|(refine aN V ?_;clear V U)|refine aB ?_|refine rtW ?_)
 exact⟨.inr rfl,Ent.int rfl⟩
theorem Fg (e:Ed.ah) (v:Int):PCall Tryz.prog 74 [.agg (Ed.aF e),.iptr [.fn (.func 28) [] []],.iptr [.int v]] (.b (e.id==v)):=by
 refine PCall.body Tryz.func74 rfl rfl Tryz.ntmps74 rfl rfl ?_
 repeat' (first|refine qS ?_|apply sqW|refine rgK fun U V=>?_|(refine aN V ?_;clear V U)|refine aB ?_|refine rtW ?_|refine kD fun U V=>?_|(refine aqN (V _ ?_);clear V U)|refine aqQ rfl rfl (fun hg=>by first|exact aa|exact pc (Hi e)|fail) (by exact rfl) ?_)
 exact⟨.inr rfl,Ent.b rfl⟩
abbrev zEd:List AV:=[.int 0,.int 0,.nils,.nils]
def iH (l:List Ed.ah) (v:Int):List AV:=if dg l v<0 then zEd else Ed.aF (l.getD (dg l v).toNat default)
theorem Aa (l:List Ed.ah) (hl:l.length≤1000000000) (v:Int) :
 PCall Tryz.prog 27 [.sl 4 (l.map Ed.aF) .no,.int v,.fn (.func 28) [] []] (.tup [.agg (iH l v),.b (!decide (dg l v<0))]):=by
 have h1:=oX l (.fn (.func 74) [] [.iptr [.fn (.func 28) [] []],.iptr [.int v]]) (fun e=>e.id==v) (fun x _=>⟨_,[],_,rfl,Fg x v⟩) hl;rw[show az (fun e:Ed.ah=>e.id==v) l=dg l v from rfl] at h1;refine PCall.bN ab Tryz.func27 rfl rfl Tryz.ntmps27 rfl ?_;by_cases hf:dg l v<0
 · have e:iH l v=zEd:=if_pos hf;rw[e,decide_eq_true hf]
   repeat' (first|refine qP ?_ (h:=fun hg=>by first|exact aa|exact pbW (h1) rfl rfl nd rfl rfl nds|exact af)|apply sqW|refine rgK fun U V=>?_|(refine aN V ?_;clear V U)|refine aB ?_|refine aS ?_|refine aA ?_|refine cX ?_ ?_<;>intro hc<;>try simp only[dE] at hc|refine skW ?_|refine rtW ?_)
   all_goals (first|exact dd|skip)
   exact⟨.inr rfl,_,rfl,Ent.of rfl⟩
 · have e:iH l v=Ed.aF (l.getD (dg l v).toNat default):=if_neg hf;rw[e,decide_eq_false hf];obtain⟨k,hk,hlt,_⟩:=bY (p:=fun e:Ed.ah=>e.id==v) (l:=l) (by have:dg l v=az (fun e:Ed.ah=>e.id==v) l:=rfl;omega);have hk:dg l v=k:=hk;rw[hk] at h1 ⊢;rw[zAe];obtain⟨s,hs⟩:∃s,l.getD k default=s:=⟨_,rfl⟩
   rw[hs]
   repeat' (first|refine qP ?_ (h:=fun hg=>by first|exact PRun.eq (v:=.iptr (Ed.aF (l.getD ((k:Nat):Int).toNat default))) (piW ab rfl rfl nd rfl nd rfl rfl oM) (congrArg (fun x=>AV.iptr (Ed.aF x)) (show l.getD ((k:Nat):Int).toNat default=s from hs))|exact aa|exact pbW (h1) rfl rfl nd rfl rfl nds|fail)|apply sqW|refine rgK fun U V=>?_|(refine aN V ?_;clear V U)|refine aB ?_|refine aS ?_|refine aA ?_|refine cX ?_ ?_<;>intro hc<;>try simp only[dE] at hc|refine skW ?_|refine rtW ?_)
   all_goals (first|exact dd|skip)
   exact⟨.inr rfl,_,rfl,Ent.of rfl⟩
def k9 (ws:List aV) (v:Int):Score:=atS (bp ws) (fg (bp ws) v).toNat
def cI (ws:List aV) (es:List Ed.ah) (ds:List Dec) (s:Std) (time:Int) (c:Pl.Call):Mom×Int :=
 if eG ws ds s time≠0 then (cJ,eG ws ds s time)
 else if oY es=false then (cJ,1)
 else if dg es s.ed<0 then (cJ,4)
 else Pl.resolve (k9 ws (atR ws ds s.known time).1.version) (es.getD (dg es s.ed).toNat default) (atR ws ds s.known time).1 c
theorem mc {ws:List aV} {ds:List Dec} {s:Std} {time:Int} (h:eG ws ds s time=0) :
 (atR ws ds s.known time).2=0∧fK ws (atR ws ds s.known time).1∧∃k:Nat,fg (bp ws) (atR ws ds s.known time).1.version=k∧k<ws.length∧atS (bp ws) k=(ws.getD k default).score:=by
 have h1:(atR ws ds s.known time).2=0:=by
  unfold eG at h;by_cases hv:iw s=false
  · rw[if_pos hv] at h;cases h
  · rw[if_neg hv] at h;by_cases h2:(atR ws ds s.known time).2≠0
    · rw[if_pos h2] at h;exact absurd h h2
    · omega
 obtain⟨hr,_⟩:=HW h1;refine⟨h1,hr,?_⟩;obtain⟨w,hw,hv,_⟩:=hr.work;have hlen:(bp ws).length=ws.length:=sMp;have hm:∃x∈bp ws,(x.version==(atR ws ds s.known time).1.version)=true:=⟨w.score,zAq.2 ⟨w,hw,rfl⟩,by rw[hv];exact beq_self_eq_true _⟩
 have hge:0≤fg (bp ws) (atR ws ds s.known time).1.version:=by
  have:=Pl.gA (fun x:Score=>x.version==(atR ws ds s.known time).1.version) (bp ws);rw[zCw.2 hm] at this;have:=of_decide_eq_true this;exact this
 obtain⟨k,hk,hlt,_⟩:=bY (p:=fun x:Score=>x.version==(atR ws ds s.known time).1.version) (l:=bp ws) hge;refine⟨k,hk,oM,?_⟩;have hkl:k<ws.length:=oM;show(bp ws).getD k default=_;unfold bp;simp[List.getD,hkl]
theorem mM (ws:List aV) (hl:ws.length≤1000000000) (hws:∀w∈ws,WIn w) (es:List Ed.ah) (he:es.length≤1000000000) (hes:∀e∈es,Ed.Wf e) (ds:List Dec) (hd:ds.length≤1000000000) (s:Std) (ht:Txt s.evs) (hle:s.evs.length≤1000000000) (time:Int) (c:Pl.Call) (hcl:c.letter.size≤9223372036854775807) :
 PCall Tryz.prog 9 [.sl 12 (ws.map aU) .no,.sl 4 (es.map Ed.aF) .no,.sl 6 (ds.map bx) .no,.agg (aR s),.int time,.agg (bw c)] (.tup [.agg (bA (cI ws es ds s time c).1),.int (cI ws es ds s time c).2]):=by
 have ha:=CM es he hes;have hf:=Aa es he s.ed;unfold cI;by_cases h0:eG ws ds s time≠0
 · have hn:=CK ws ds s time hl hws hd ht hle h0;rw[if_pos h0];generalize eG ws ds s time=E at *;refine PCall.bN ab Tryz.func9 rfl rfl Tryz.ntmps9 rfl ?_
   repeat' (first|refine qP ?_ (h:=fun hg=>by first|exact aa|exact pc hn|exact pbD ab rfl rfl nds|fail)|apply sqW|refine rgK fun U V=>?_|(refine aN V ?_;clear V U)|refine aB ?_|refine aS ?_|refine aA ?_|refine cX ?_ ?_<;>intro hc<;>try simp only[dE] at hc|refine skW ?_|refine rtW ?_)
   all_goals (first|(exfalso;simp at hc;omega)|skip)
   exact⟨.inr rfl,_,rfl,Ent.of rfl⟩
 · have h0':eG ws ds s time=0:=oM;obtain⟨h1,hr,k,hk,hkl,hat⟩:=mc h0';obtain⟨w,hwk⟩:∃w,ws.getD k default=w:=⟨_,rfl⟩
   rw[hwk] at hat;have hin:=hws w (hwk▸bD hkl);have hy:=CJ ws ds s time hl hws hd ht hle h0' hk hat;rw[if_neg h0];have hsc:k9 ws (atR ws ds s.known time).1.version=w.score:=by unfold k9;rw[hk,zAe,hat]
   rw[hsc];have bL:=qM hr.form;generalize (atR ws ds s.known time).1=r at *;cases heo:oY es with
   | false =>
     rw[heo] at ha;rw[if_pos rfl];refine PCall.bN ab Tryz.func9 rfl rfl Tryz.ntmps9 rfl ?_
     repeat' (first|refine qP ?_ (h:=fun hg=>by first|exact aa|exact pc hy|exact pc ha|exact pbD ab rfl rfl nds|fail)|apply sqW|refine rgK fun U V=>?_|(refine aN V ?_;clear V U)|refine aB ?_|refine aS ?_|refine aA ?_|refine cX ?_ ?_<;>intro hc<;>try simp only[dE] at hc|refine skW ?_|refine rtW ?_)
     all_goals (first|(exfalso;simp at hc;done)|skip)
     exact⟨.inr rfl,_,rfl,Ent.of rfl⟩
   | true =>
     rw[heo] at ha;rw[if_neg dCd];by_cases hed:dg es s.ed<0
     · rw[if_pos hed];have e:iH es s.ed=zEd:=if_pos hed;rw[e,decide_eq_true hed] at hf;refine PCall.bN ab Tryz.func9 rfl rfl Tryz.ntmps9 rfl ?_
       repeat' (first|refine qP ?_ (h:=fun hg=>by first|exact aa|exact pc hy|exact pc ha|exact pc hf|exact pbD ab rfl rfl nds|fail)|apply sqW|refine rgK fun U V=>?_|(refine aN V ?_;clear V U)|refine aB ?_|refine aS ?_|refine aA ?_|refine cX ?_ ?_<;>intro hc<;>try simp only[dE] at hc|refine skW ?_|refine rtW ?_)
       all_goals (first|(exfalso;simp at hc;done)|skip)
       exact⟨.inr rfl,_,rfl,Ent.of rfl⟩
     · rw[if_neg hed];obtain⟨j,hj,hjl,_⟩:=bY (p:=fun e:Ed.ah=>e.id==s.ed) (l:=es) (by have:dg es s.ed=az (fun e:Ed.ah=>e.id==s.ed) es:=rfl;omega);have hj:dg es s.ed=j:=hj;have e:iH es s.ed=Ed.aF (es.getD (dg es s.ed).toNat default):=if_neg hed;rw[e,decide_eq_false hed,hj,zAe] at hf;rw[hj,zAe];have hwf:=hes (es.getD j default) (bD hjl);generalize es.getD j default=ed at *;have kV:=Pl.yB w.score hin.score ed hwf r bL c hcl;generalize Pl.resolve w.score ed r c=R at *;refine PCall.bN ab Tryz.func9 rfl rfl Tryz.ntmps9 rfl ?_
       repeat' (first|refine qP ?_ (h:=fun hg=>by first|exact aa|exact pc hy|exact pc ha|exact pc hf|exact pc kV|exact pbD ab rfl rfl nds|fail)|apply sqW|refine rgK fun U V=>?_|(refine aN V ?_;clear V U)|refine aB ?_|refine aS ?_|refine aA ?_|refine cX ?_ ?_<;>intro hc<;>try simp only[dE] at hc|refine skW ?_|refine rtW ?_)
       all_goals (first|(exfalso;simp at hc;done)|skip)
       exact⟨.inr rfl,_,rfl,Ent.of rfl⟩
end Go.Proofs.YthiaimakjmhegaaGreatDoor.Top
