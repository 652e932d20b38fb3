/- Parts of the proof. No statement is proved here. -/
import Derived.Test.YthiaimakjmhegaaGreatDoorP8
import Derived.Test.YthiaimakjmhegaaGreatDoorP9
set_option linter.unusedVariables false
set_option linter.unusedSimpArgs false
set_option maxHeartbeats 16000000
set_option maxRecDepth 20000
namespace Go.Proofs.YthiaimakjmhegaaGreatDoor
open Go.Ab
attribute [local irreducible] AWP AOps EStep AQ PStep PRun PCall TCall VCall
def orL:List Int→Int
 |[]=>0
 |x::r=>if x=0 then orL r else x
theorem xN:∀{l:List Int},(∀j,j<l.length→l.getD j default=0)→orL l=0
 |[],_=>rfl
 | x :: r, h => by
   have h0:x=0:=by simpa using h 0 sMp
   rw[orL,if_pos h0];exact xN fun j hj=>by simpa using h (j+1) (by simpa using hj)
theorem vm:∀{l:List Int} {k:Nat},k<l.length→(∀j,j<k→l.getD j default=0)→l.getD k default≠0→orL l=l.getD k default
 |[],k,hk,_,_=>absurd hk sMp
 | x :: r, 0, _, _, h1 => by
   have h2:x≠0:=by simpa using h1
   simp[orL,h2]
 | x :: r, k + 1, hk, h, h1 => by
   have h0:x=0:=by simpa using h 0 oM
   have h2:=vm (l:=r) (k:=k) (by simpa using hk) (fun j hj=>by simpa using h (j+1) oM) (by simpa using h1);rw[orL,if_pos h0,h2];simp
theorem Ax (l:List Int) (hl:l.length≤9223372036854775807):PCall Tryz.prog 268 [.sl 1 (l.map fun n=>[AV.int n]) .no] (.int (orL l)):=by
 refine PCall.body Tryz.func268 rfl rfl Tryz.ntmps268 rfl rfl ?_
 repeat' (first|refine qT ?_|apply sqW|refine rgK fun U V=>?_|(refine aN V ?_;clear V U)|refine blK ?_)
 refine lpD (ι:=Nat) (fun k=>[(3,.int 0),(6,.sl 1 (l.map fun n=>[AV.int n]) .no),(7,.int l.length),(8,.int k)]) (fun _=>[])
  (fun k=>k≤l.length∧∀j,j<k→l.getD j default=0) (fun k=>l.length - k) 0 (fun _=>rfl) 0 ⟨nZl _,fun j h=>absurd h oM⟩ ⟨rfl,rfl,rfl,rfl,tI⟩ rfl (fun _ _=>rfl) (fun k _=>by simp[aD,aO]) ?_
 rintro k ⟨hk,hz⟩;by_cases hlt:k<l.length
 · repeat' (first|refine qT ?_|apply sqW|refine rgK fun U V=>?_|(refine aN V ?_;clear V U)|refine cX ?_ ?_<;>intro hc<;>try simp only[dE] at hc|refine blK ?_|refine exW ?_|refine skW ?_|refine rtW ?_)
   · refine⟨.inr rfl,Ent.int ?_⟩;rw[zAe] at hc ⊢;exact(vm hlt hz (by simpa using hc)).symm
   · rw[zAe] at hc;exact⟨k+1,⟨oM,fun j hj=>aH hz (by simpa using hc) hj⟩,oM,⟨rfl,rfl,rfl,rfl,tI⟩,rfl⟩
   · exfalso;omega
 · repeat' (first|refine qT ?_|apply sqW|refine rgK fun U V=>?_|(refine aN V ?_;clear V U)|refine cX ?_ ?_<;>intro hc<;>try simp only[dE] at hc|refine blK ?_|refine exW ?_|refine skW ?_|refine rtW ?_)
   · exfalso;omega
   · exfalso;omega
   · refine⟨.inr rfl,Ent.int ?_⟩;exact(xN fun j hj=>hz j oM).symm
theorem xO (p:fC):-1000≤(ew p).1∧(ew p).1≤1000:=by
 unfold ew;split
 · rename_i h;have h1:=qY.1 h;have h2:=Au p.step.toNat;unfold oq;dsimp only;omega
 · exact⟨by decide,by decide⟩
def gi (n:bk):Prop:=(1≤n.id∧n.id≤1000000)∧(1≤n.part∧n.part≤1000000)∧0≤n.fT∧n.fT≤9
def lk0 (al:List (Int×Int)) (k:Int):Int:=(lk al k).getD 0
def uC (al:List (Int×Int)) (x y:bk):Int:=orL [lk0 al x.bar - lk0 al y.bar,x.part - y.part,(dx x.start).1 - (dx y.start).1,x.fT - y.fT,(ew x.pitch).1 - (ew y.pitch).1,x.id - y.id]
theorem DH {al:List (Int×Int)} (hal:∀k i,lk al k=some i→0≤i∧i<4611686018427387904) (k:Int):0≤lk0 al k∧lk0 al k<4611686018427387904:=by
 unfold lk0;cases h:lk al k with
 |none=>exact⟨by decide,by decide⟩
 |some i=>exact hal k i h
theorem DI (al:List (Int×Int)) (hal:∀k i,lk al k=some i→0≤i∧i<4611686018427387904) (x y:bk) (hx:gi x) (hy:gi y) :
 PCall Tryz.prog 267 [.agg (bQ x),.agg (bQ y),.iptr [.imap (aT ekI AV.int al)]] (.int (uC al x y)):=by
 obtain⟨⟨a1,a2⟩,⟨a3,a4⟩,a5,a6⟩:=hx;obtain⟨⟨b1,b2⟩,⟨b3,b4⟩,b5,b6⟩:=hy;have c1:=mw x.start;have c2:=mw y.start;have d1:=xO x.pitch;have d2:=xO y.pitch;have e1:=DH hal x.bar;have e2:=DH hal y.bar;unfold lk0 at e1 e2;have ho:=Ax [lk0 al x.bar - lk0 al y.bar,x.part - y.part,(dx x.start).1 - (dx y.start).1,x.fT - y.fT,(ew x.pitch).1 - (ew y.pitch).1,x.id - y.id] sMp;refine PCall.body Tryz.func267 rfl rfl Tryz.ntmps267 rfl rfl ?_
 repeat' (first|refine qP ?_ (h:=fun hg=>by first|exact aa|exact pc (jK x.start)|exact pc (jK y.start)|exact pc (lR x.pitch)|exact pc (lR y.pitch)|exact PRun.lookup (ek:=ekI) (ev:=AV.int) (zv:=0) (aL (lkG rfl)) (lkG rfl) (lkG rfl) rfl rfl (Rd.w rfl nd) (Or.inl rfl) (Rd.w rfl nd) rfl|exact pbS ab rfl rfl nds|exact pc ho|exact af)|apply sqW|refine rgK fun U V=>?_|(refine aN V ?_;clear V U)|refine aB ?_|refine rtW ?_)
 exact⟨.inr rfl,Ent.int rfl⟩
end Go.Proofs.YthiaimakjmhegaaGreatDoor
namespace Go.Proofs.YthiaimakjmhegaaGreatDoor
open Go.Ab Go.Sort
def iL (a b:List Int):Int:=orL (List.zipWith (· - ·) a b)
theorem Ay:∀l:List Int,orL (l.map fun x => -x) = - orL l
 |[]=>rfl
 | x :: r => by
   have:=Ay r;by_cases h:x=0
   · subst h;simp[orL,this]
   · simp[orL,h]
theorem mx (a b:List Int):iL b a = - iL a b:=by
 unfold iL;rw[←Ay,List.map_zipWith,List.zipWith_comm];congr 1;exact congrFun (congrFun (congrArg List.zipWith (by funext x y;omega)) a) b
theorem xP (a:List Int):iL [] a=0:=by simp[iL,orL]
theorem vn (x y:Int) (a b:List Int):iL (x::a) (y::b)=if x - y=0 then iL a b else x - y:=by simp[iL,orL]
theorem Az:∀{a b c:List Int},a.length=b.length→b.length=c.length→iL a b<0→iL b c<0→iL a c<0
 |[],b,c,_,_,h,_=>by rw[xP] at h;omega
 | x :: a, y :: b, z :: c, h1, h2, h3, h4 => by
   have ih:=Az (a:=a) (b:=b) (c:=c) (by simpa using h1) (by simpa using h2);rw[vn] at *;split at h3<;>split at h4<;>split<;>first|omega|(exact ih h3 h4)
theorem AA:∀{a b c:List Int},a.length=b.length→b.length=c.length→iL a b≤0→iL b c≤0→iL a c≤0
 |[],b,c,_,_,_,_=>by rw[xP];omega
 | x :: a, y :: b, z :: c, h1, h2, h3, h4 => by
   have ih:=AA (a:=a) (b:=b) (c:=c) (by simpa using h1) (by simpa using h2);rw[vn] at *;split at h3<;>split at h4<;>split<;>first|omega|(exact ih h3 h4)
def gP (al:List (Int×Int)) (x:bk):List Int:=[lk0 al x.bar,x.part,(dx x.start).1,x.fT,(ew x.pitch).1,x.id]
theorem ltN (al:List (Int×Int)) (f:bk→bk) (x y:bk):Go.Proofs.ltOf (fun x y:bk=>uC al (f x) (f y)) x y=true↔iL (gP al (f x)) (gP al (f y))<0:=decide_eq_true_iff
theorem ltN' (al:List (Int×Int)) (f:bk→bk) (x y:bk):Go.Proofs.ltOf (fun x y:bk=>uC al (f x) (f y)) x y=false↔¬iL (gP al (f x)) (gP al (f y))<0:=dEf
theorem FU (al:List (Int×Int)) (f:bk→bk):SWO (Go.Proofs.ltOf fun x y:bk=>uC al (f x) (f y)) where
 irrefl x:=by
  have:=mx (gP al (f x)) (gP al (f x));rw[ltN'];omega
 trans x y z h1 h2:=by
  rw[ltN] at *;exact Az (a:=gP al (f x)) (b:=gP al (f y)) (c:=gP al (f z)) rfl rfl h1 h2
 ntrans x y z h1 h2:=by
  have a1:=mx (gP al (f x)) (gP al (f y));have a2:=mx (gP al (f y)) (gP al (f z));have a3:=mx (gP al (f x)) (gP al (f z));rw[ltN'] at *;have:=AA (a:=gP al (f z)) (b:=gP al (f y)) (c:=gP al (f x)) rfl rfl oM oM;omega
end Go.Proofs.YthiaimakjmhegaaGreatDoor
namespace Go.Proofs.YthiaimakjmhegaaGreatDoor
open Go.Ab Go.Sort
attribute [local irreducible] AWP AOps EStep AQ PStep PRun PCall TCall VCall
theorem FW (l:List bk):∀x∈l.map bQ,x.all eH=true:=fun x hx=>by
 obtain⟨c,_,rfl⟩:=zAq.1 hx;rfl
theorem IG (l:List bk) (hl:l.length≤1000000000) (u:AV) (hu:aD 1 (.var [u])=true) (hu2:aD 2 (.var [u])=true):TCall Tryz.prog 265 [.sl 12 (l.map bQ) .no] [.var [u]]
 (fun r s=>(l=[]∧r=.nils∧s=[.var [u]])∨(r=.sla 1 12 0 l.length 0∧s=[.var [u],.arr 12 0 (l.map bQ)])):=by
 have hll:(l.map bQ).length=l.length:=sMp;refine TCall.body Tryz.func265 rfl rfl Tryz.ntmps265 rfl rfl ?_
 repeat' (first|refine qS ?_|apply sqW|refine rgK fun U V=>?_|(refine aN V ?_;clear V U)|refine aoE (EStep.kC ab rfl rfl rfl rfl rfl tI rfl ?_))
 intro b hb
 repeat' (first|refine qP ?_ (h:=fun hg=>by first|exact PRun.fM ab rfl rfl|exact aa|exact af)|apply sqW|refine rgK fun U V=>?_|(refine aN V ?_;clear V U)|refine aoE (EStep.eK ab rfl rfl rfl rfl (Rd.w rfl tI) (Rd.w rfl tI) (.sl rfl (FW _)) (lkG rfl) (lkG rfl) rfl rfl (by simp only[hll];omega) oM ?_)|refine cX ?_ ?_<;>intro hc<;>try simp only[dE] at hc|refine skW ?_|refine rtW ?_)
 · exact⟨.inr rfl,.nils,[.var [u]],.inl ⟨by simpa using hb hc,rfl,rfl⟩,rfl,nLr _,by simpa using hu,rfl,rfl⟩
 · refine⟨.inr rfl,.sla 1 12 0 (l.map bQ).length 0,[.var [u],.arr 12 0 (l.map bQ)],.inr ⟨by rw[hll],rfl⟩,rfl,by simp,?_,rfl,rfl⟩;simp only[zB4,zBg,zAd,zAm,zBv,Nat.reduceAdd,hu2,zAy,zCf];simp[aD,bQ,aO]
instance (n:bk):Decidable (gi n):=by unfold gi;infer_instance
def jM (n:bk):bk:=if gi n then n else ⟨1,1,0,0,0,⟨0,1⟩,⟨0,1⟩,⟨0,0,0⟩⟩
theorem AB (n:bk):gi (jM n):=by
 unfold jM;split
 · assumption
 · decide
theorem AD {n:bk} (h:gi n):jM n=n:=if_pos h
def bC (n:bk):List Value:=let m:=jM n;[.int .i64 m.id,.int .i64 m.part,.int .i64 m.bar,.int .i64 m.fT,.int .i64 m.ln,.int .i64 m.start.n,.int .i64 m.start.d,.int .i64 m.len.n,.int .i64 m.len.d,.int .i64 m.pitch.step,.int .i64 m.pitch.alter,.int .i64 m.pitch.oct]
theorem xQ (n:bk):(bC n).map AV.prim=bQ (jM n):=rfl
def i7 (al:List (Int×Int)) (l:List bk):List bk:=kB (fun x y=>uC al (jM x) (jM y)) l
theorem my (al:List (Int×Int)) (l:List bk):(i7 al l).length=l.length:=by
 have:=(lh _ (FU al jM) l).1.1;simpa[i7] using this
theorem Bt (al:List (Int×Int)) (l:List bk):(i7 al l).Perm l:=by
 have h:=(lh _ (FU al jM) l).1.2.2;have hl:=my al l;rw[←hl] at h;unfold i7 at h hl ⊢;simp only[zD8,List.extract_toArray,List.extract_eq_take_drop,Nat.sub_zero,List.drop_zero] at h;rw[zAh (nLr _),hl,zAh (nLr _)] at h;exact h
theorem DJ (al:List (Int×Int)) {l:List bk} (h:∀n∈l,gi n):(i7 al l).map (fun x=>(bC x).map AV.prim)=(i7 al l).map bQ:=by
 refine zDz fun x hx=>?_
 rw[xQ,AD (h x ((Bt al l).mem_iff.1 hx))]
theorem IH {l:List bk} (h:∀n∈l,gi n):l.map (fun x=>(bC x).map AV.prim)=l.map bQ:=by
 refine zDz fun x hx=>?_
 rw[xQ,AD (h x hx)]
theorem Lr (l:List bk):∀e∈l.map bQ,∀a∈e,∀M B x,ag M B a x→ag M [] a x:=fun e he a ha M B x hx=>by
 obtain⟨n,_,rfl⟩:=zAq.1 he;simp only[bQ,zAo,zCe,or_false] at ha;rcases ha with rfl|rfl|rfl|rfl|rfl|rfl|rfl|rfl|rfl|rfl|rfl|rfl<;>(rw[ag.aJ hx];exact .prim _)
theorem vo:mO Tryz.prog 266:=⟨_,Tryz.func266,rfl,rfl⟩
theorem FX:mO Tryz.prog 267:=⟨_,Tryz.func267,rfl,rfl⟩
theorem Ls (al:List (Int×Int)) (hal:∀k i,lk al k=some i→0≤i∧i<4611686018427387904) (l:List bk) (hl:l.length≤1000000000) (hin:∀n∈l,gi n) :
 TCall Tryz.prog 266 [.sla 1 12 0 l.length 0,.fn (.func 267) [] [.ptr 0 0]] [.var [.imap (aT ekI AV.int al)],.arr 12 0 (l.map bQ)]
  (fun r s=>r=.tup []∧s=[.var [.imap (aT ekI AV.int al)],.arr 12 0 ((i7 al l).map bQ)]):=by
 have h:=TCall.Lj (P:=Tryz.prog) (ρ:=Tryz.lV) Tryz.xC (sz:=12) Tryz.isAgg225 Tryz.sizeOf225 bC (fun _=>rfl) (fun x v hv=>by
  simp only[bC,zAo,zCe,or_false] at hv;rcases hv with rfl|rfl|rfl|rfl|rfl|rfl|rfl|rfl|rfl|rfl|rfl|rfl<;>rfl)
  (fun x y=>uC al (jM x) (jM y)) (FU al jM) (g:=267) (aQ:=[.ptr 0 0]) (σ:=[.var [.imap (aT ekI AV.int al)],.arr 12 0 (l.map bQ)]) vo FX
  (fun x y=>DI al hal (jM x) (jM y) (AB x) (AB y)) (l:=1) (ver:=0) (xs:=l) (by rw[IH hin];rfl) oM
 refine TCall.mono h ?_;rintro r s ⟨h1,h2⟩;refine⟨h1,?_⟩;rw[h2];show[_,bc.arr 12 0 ((i7 al l).map fun x=>(bC x).map AV.prim)]=_;rw[DJ al hin]
theorem DK (bars:List Bar) (hb:bars.length≤1000000000):∀k i,lk (dM bars) k=some i→0≤i∧i<4611686018427387904:=fun k i h=>by
 rw[xy] at h;obtain⟨j,h1,h2,_⟩:=xz bars k _ i h;omega
theorem zr (bars:List Bar) (l:List bk) (hb:bars.length≤1000000000) (hl:l.length≤1000000000) (hin:∀n∈l,gi n) :
 PCall Tryz.prog 209 [.sl 4 (bars.map cS) .no,.sl 12 (l.map bQ) .no] (.sl 12 ((i7 (dM bars) l).map bQ) .no):=by
 have hi:=pL bars oM;have hc:=TCall.val (first:=[]) (aQ:=[]) (avs:=[.sl 12 (l.map bQ) .no]) (IG l hl (.imap (aT ekI AV.int (dM bars))) (by simp[aD,aO]) (by simp[aD,aO]));have hs:=TCall.val (first:=[]) (aQ:=[]) (avs:=[.sla 1 12 0 l.length 0,.fn (.func 267) [] [.ptr 0 0]]) (Ls (dM bars) (DK bars hb) l hl hin);have h0:=fun u=>PCall.Li (P:=Tryz.prog) (ρ:=Tryz.lV) Tryz.xC vo u
 refine PCall.body Tryz.func209 rfl rfl Tryz.ntmps209 rfl rfl ?_
 repeat' (first|refine qP ?_ (h:=fun hg=>by first|exact aa|exact pc hi|exact af)|apply sqW|refine rgK fun U V=>?_|(refine aN V ?_;clear V U)|refine aS ?_|refine aA ?_|refine aoE (scT (hc) rfl rfl rfl rfl rfl nd rfl rfl nds ?_))
 rintro r s (⟨h1,rfl,rfl⟩|⟨rfl,rfl⟩)
 · subst h1
   repeat' (first|refine qP ?_ (h:=fun hg=>by first|exact aa|exact pc (h0 _)|exact af)|apply sqW|refine rgK fun U V=>?_|(refine aN V ?_;clear V U)|refine rtW ?_)
   refine⟨.inr rfl,?_⟩;rw[zAr (my (dM bars) [])];exact Ent.nil
 · repeat' (first|refine qS ?_|apply sqW|refine rgK fun U V=>?_|(refine aN V ?_;clear V U)|refine aoE (scT (hs) rfl rfl rfl rfl rfl nd rfl rfl nds ?_))
   rintro r s ⟨rfl,rfl⟩
   repeat' (first|refine qS ?_|apply sqW|refine rgK fun U V=>?_|(refine aN V ?_;clear V U))
   refine AWP.gM (d:=4) (l:=1) (sz:=12) (ver:=0) (es:=(i7 (dM bars) l).map bQ) (by show AV.sla 1 12 0 l.length 0=_;rw[lLm,my]) rfl (Lr _) ?_;refine rtW ⟨.inr rfl,?_⟩;exact fun _ _ h=>h
theorem Bu {bars:List Bar} {l:List bk} (h:fk bars l=true):∀n∈l,gi n:=fun n hn=>by
 unfold fk at h;simp only[zA0,zA4] at h;have h1:=h.1.2 n hn;have hf:ou n=true:=by
  unfold nA at h1;split at h1
  · unfold nz at h1;simp only[zA0] at h1;exact h1.2
  · cases h1
 unfold ou at hf;simp only[zA0,inB,dEt] at hf;unfold gi;omega
def jN (bars:List Bar) (l:List bk):List bk×Int:=if fk bars l then (i7 (dM bars) l,0) else ([],1)
theorem DL (bars:List Bar) (l:List bk) (hb:bars.length≤1000000000) (hl:l.length≤1000000000) :
 PCall Tryz.prog 139 [.sl 4 (bars.map cS) .no,.sl 12 (l.map bQ) .no] (.tup [.sl 12 ((jN bars l).1.map bQ) .no,.int (jN bars l).2]):=by
 have v:=qZ bars l oM oM;refine PCall.body Tryz.func139 rfl rfl Tryz.ntmps139 rfl rfl ?_;by_cases h:fk bars l=true
 · have w:=zr bars l hb hl (Bu h)
   repeat' (first|refine qP ?_ (h:=fun hg=>by first|exact aa|exact pc v|exact pc w|exact af)|apply sqW|refine rgK fun U V=>?_|(refine aN V ?_;clear V U)|refine cX ?_ ?_<;>intro hc<;>try simp only[dE] at hc|refine skW ?_|refine rtW ?_)
   · exfalso;simp[h] at hc
   · refine⟨.inr rfl,Ent.of ?_⟩;rw[show jN bars l=(i7 (dM bars) l,0) from by unfold jN;rw[if_pos h]];rfl
 · repeat' (first|refine qP ?_ (h:=fun hg=>by first|exact aa|exact pc v|exact af)|apply sqW|refine rgK fun U V=>?_|(refine aN V ?_;clear V U)|refine cX ?_ ?_<;>intro hc<;>try simp only[dE] at hc|refine skW ?_|refine rtW ?_)
   · refine⟨.inr rfl,?_⟩;rw[show jN bars l=([],1) from by unfold jN;rw[if_neg h]];exact Ent.jl Ent.nil (Ent.bO _)
   · exfalso;simp[h] at hc
end Go.Proofs.YthiaimakjmhegaaGreatDoor
namespace Go.Proofs.YthiaimakjmhegaaGreatDoor
open Go.Ab
attribute [local irreducible] AWP AOps EStep AQ PStep PRun PCall TCall VCall
theorem zt {α:Type} [BEq α] [LawfulBEq α] {a b:List α} (h:a.length≠b.length):(a==b)=false:=by
 cases hh:a==b with
 |false=>rfl
 |true=>exact absurd (congrArg List.length (eq_of_beq hh)) h
theorem Bv {α:Type} [BEq α] [LawfulBEq α] [Inhabited α] {a b:List α} {k:Nat} (h:a.getD k default≠b.getD k default):(a==b)=false:=by
 cases hh:a==b with
 |false=>rfl
 |true=>exact absurd (by rw[eq_of_beq hh]) h
theorem zu {α:Type} [BEq α] [LawfulBEq α] [Inhabited α] {a b:List α} (hl:a.length=b.length) (h:∀j,j<a.length→a.getD j default=b.getD j default):(a==b)=true:=by
 have:a=b:=List.ext_getElem hl fun i h1 h2=>by
  have:=h i h1;simpa[List.getD,h1,h2] using this
 rw[this];simp
theorem flN:mq Tryz.prog 225=some [.int .i64,.int .i64,.int .i64,.int .i64,.int .i64,.int .i64,.int .i64,.int .i64,.int .i64,.int .i64,.int .i64,.int .i64]:=by kernel_rfl
def Bw (a b:bk):Bool:=a.id==b.id&&(a.part==b.part&&(a.bar==b.bar&&(a.fT==b.fT&&(a.ln==b.ln&&(a.start.n==b.start.n&&(a.start.d==b.start.d&&(a.len.n==b.len.n&&(a.len.d==b.len.d&&(a.pitch.step==b.pitch.step&&(a.pitch.alter==b.pitch.alter&&(a.pitch.oct==b.pitch.oct&&true)))))))))))
theorem AE (a b:bk):Bw a b=(a==b):=by
 unfold Bw;rw[zAi];obtain⟨a1,a2,a3,a4,a5,⟨a6,a7⟩,⟨a8,a9⟩,⟨a10,a11,a12⟩⟩:=a;obtain⟨b1,b2,b3,b4,b5,⟨b6,b7⟩,⟨b8,b9⟩,⟨b10,b11,b12⟩⟩:=b;simp[and_assoc]
theorem zw (a b:List bk) (ha:a.length≤9223372036854775807) (hb:b.length≤9223372036854775807):PCall Tryz.prog 140 [.sl 12 (a.map bQ) .no,.sl 12 (b.map bQ) .no] (.b (a==b)):=by
 refine PCall.body Tryz.func140 rfl rfl Tryz.ntmps140 rfl rfl ?_
 repeat' (first|refine qT ?_|apply sqW|refine rgK fun U V=>?_|(refine aN V ?_;clear V U)|refine cX ?_ ?_<;>intro hc<;>try simp only[dE] at hc|refine blK ?_|refine skW ?_|refine rtW ?_)
 · refine⟨.inr rfl,Ent.b (zt ?_).symm⟩;simp only[zAe,zC5,zA0,zAg,zDp,dEt,dEf,zB3,zBc,beq_iff_eq,beq_eq_false_iff_ne,bne_iff_ne,bne_eq_false_iff_eq,gt_iff_lt,ge_iff_le,ne_eq] at hc;omega
 have hlen:a.length=b.length:=by simp only[zAe,zC5,zA0,zAg,zDp,dEt,dEf,zB3,zBc,beq_iff_eq,beq_eq_false_iff_ne,bne_iff_ne,bne_eq_false_iff_eq,gt_iff_lt,ge_iff_le,ne_eq] at hc;omega
 refine lpW (ι:=Nat) (fun k=>[(0,.sl 12 (a.map bQ) .no),(1,.sl 12 (b.map bQ) .no),(12,.int a.length),(13,.int k)]) (fun _=>[]) (fun k=>k≤a.length∧∀j,j<k→a.getD j default=b.getD j default) (fun k=>a.length - k) 0 ⟨nZl _,fun j h=>absurd h oM⟩ ⟨rfl,rfl,rfl,rfl,tI⟩ rfl ?_;rintro k ⟨hk,au⟩;by_cases hlt:k<a.length
 · repeat' (first|refine qS ?_|apply sqW|refine rgK fun U V=>?_|(refine aN V ?_;clear V U)|refine cX ?_ ?_<;>intro hc<;>try simp only[dE] at hc|refine blK ?_|refine exW ?_|refine skW ?_|refine rtW ?_|refine kD fun U V=>?_|(refine aqN (V _ ?_);clear V U)|refine aqQ rfl rfl (fun hg=>by first|exact aa|exact PRun.neN flN rfl rfl nd rfl nd rfl|exact af) (by exact rfl) ?_)
   · refine⟨.inr rfl,Ent.b (Bv (k:=k) ?_).symm⟩;have h1:(!(Bw (a.getD k default) (b.getD k default)))=true:=hc;rw[AE] at h1;simpa using h1
   · refine⟨k+1,⟨oM,fun j hj=>aH au ?_ hj⟩,oM,⟨rfl,rfl,rfl,rfl,tI⟩,rfl⟩;have h1:(!(Bw (a.getD k default) (b.getD k default)))=false:=hc;rw[AE] at h1;simpa using h1
   · exfalso;omega
 · repeat' (first|refine qS ?_|apply sqW|refine rgK fun U V=>?_|(refine aN V ?_;clear V U)|refine cX ?_ ?_<;>intro hc<;>try simp only[dE] at hc|refine blK ?_|refine exW ?_|refine skW ?_|refine rtW ?_|refine kD fun U V=>?_|refine aqQ rfl rfl (fun hg=>by first|exact aa|exact af) (by exact rfl) ?_)
   all_goals (first|(exfalso;omega)|skip)
   exact⟨.inr rfl,Ent.b (zu hlen fun j hj=>au j oM).symm⟩
structure Part where
 id:Int
 rZ : Int
 of_:Int
 sY:Int
 Bx:Int
 shift:Interval
 low:fC
 high:fC
 deriving DecidableEq,Inhabited
def bz (p:Part):List AV:=[.int p.id,.int p.rZ,.int p.of_,.int p.sY,.int p.Bx,.int p.shift.steps,.int p.shift.lS,.int p.low.step,.int p.low.alter,.int p.low.oct,.int p.high.step,.int p.high.alter,.int p.high.oct]
theorem ei (a b c:Int):PCall Tryz.prog 197 [.int a,.int b,.int c] (.b (inB a b c)):=by
 refine PCall.body Tryz.func197 rfl rfl Tryz.ntmps197 rfl rfl ?_
 repeat' (first|refine qS ?_|apply sqW|refine rgK fun U V=>?_|(refine aN V ?_;clear V U)|refine rtW ?_)
 exact⟨.inr rfl,Ent.b rfl⟩
theorem oB (a:Int):PCall Tryz.prog 134 [.int a] (.b (inB a 1 1000000)):=by
 refine PCall.body Tryz.func134 rfl rfl Tryz.ntmps134 rfl rfl ?_
 repeat' (first|refine qP ?_ (h:=fun hg=>by first|exact aa|exact pc (ei _ _ _)|exact af)|apply sqW|refine rgK fun U V=>?_|(refine aN V ?_;clear V U)|refine rtW ?_)
 exact⟨.inr rfl,Ent.b rfl⟩
theorem sZ (b:Bar):PCall Tryz.prog 187 [.agg (cS b)] (.int b.id):=by
 refine PCall.body Tryz.func187 rfl rfl Tryz.ntmps187 rfl rfl ?_
 repeat' (first|refine qT ?_|apply sqW|refine rgK fun U V=>?_|(refine aN V ?_;clear V U)|refine aB ?_|refine aS ?_|refine aA ?_|refine cX ?_ ?_<;>intro hc<;>try simp only[dE] at hc|refine blK ?_|refine exW ?_|refine skW ?_|refine rtW ?_|refine kD fun U V=>?_|refine lD fun U V=>?_|(refine aqN (V _ ?_);clear V U)|refine aqN ?_|refine aqQ rfl rfl (fun hg=>by first|exact aa|exact af) (by exact rfl) ?_)
 exact⟨.inr rfl,Ent.int rfl⟩
theorem zx (b:Part):PCall Tryz.prog 219 [.agg (bz b)] (.int b.id):=by
 refine PCall.body Tryz.func219 rfl rfl Tryz.ntmps219 rfl rfl ?_
 repeat' (first|refine qT ?_|apply sqW|refine rgK fun U V=>?_|(refine aN V ?_;clear V U)|refine aB ?_|refine aS ?_|refine aA ?_|refine cX ?_ ?_<;>intro hc<;>try simp only[dE] at hc|refine blK ?_|refine exW ?_|refine skW ?_|refine rtW ?_|refine kD fun U V=>?_|refine lD fun U V=>?_|(refine aqN (V _ ?_);clear V U)|refine aqN ?_|refine aqQ rfl rfl (fun hg=>by first|exact aa|exact af) (by exact rfl) ?_)
 exact⟨.inr rfl,Ent.int rfl⟩
def AF (i:Interval):Bool:=(jv i).2==0&&inB i.steps (-21) 21&&inB i.lS (-36) 36&&inB (jv i).1 (-12) 12
theorem zy (i:Interval):PCall Tryz.prog 256 [.agg (encI i)] (.b (AF i)):=by
 refine PCall.body Tryz.func256 rfl rfl Tryz.ntmps256 rfl rfl ?_
 repeat' (first|refine qP ?_ (h:=fun hg=>by first|exact aa|exact pc (zm i)|exact pc (ei _ _ _)|exact af)|apply sqW|refine rgK fun U V=>?_|(refine aN V ?_;clear V U)|refine aB ?_|refine rtW ?_)
 exact⟨.inr rfl,Ent.b rfl⟩
theorem iT (p:fC):PCall Tryz.prog 207 [.agg (sT p)] (.int (ew p).1):=by
 refine PCall.body Tryz.func207 rfl rfl Tryz.ntmps207 rfl rfl ?_
 repeat' (first|refine qP ?_ (h:=fun hg=>by first|exact aa|exact pc (lR p)|exact af)|apply sqW|refine rgK fun U V=>?_|(refine aN V ?_;clear V U)|refine aB ?_|refine rtW ?_)
 exact⟨.inr rfl,Ent.int rfl⟩
def FY (p:Part):Bool:=inB p.id 1 1000000&&inB p.rZ 0 99&&inB p.of_ 0 1000000&&inB p.sY (-2) 2&&inB p.Bx 1 40
def uD (p:Part):Bool:=!FY p||p.of_==p.id||(p.of_==0&&p.sY != 0)||!AF p.shift
def pQ (p:Part):Bool:=!uD p&&(iE p.low&&iE p.high&&decide ((ew p.low).1≤(ew p.high).1))
theorem zz (p:Part):PCall Tryz.prog 200 [.agg (bz p)] (.b (pQ p)):=by
 refine PCall.body Tryz.func200 rfl rfl Tryz.ntmps200 rfl rfl ?_
 repeat' (first|refine qP ?_ (h:=fun hg=>by first|exact aa|exact pc (oB _)|exact pc (ei _ _ _)|exact pc (zy p.shift)|exact af)|apply sqW|refine rgK fun U V=>?_|(refine aN V ?_;clear V U)|refine aB ?_|refine cX ?_ ?_<;>intro hc<;>try simp only[dE] at hc|refine skW ?_|refine rtW ?_|refine kD fun U V=>?_|(refine aqN (V _ ?_);clear V U)|refine aqQ rfl rfl (fun hg=>by first|exact aa|exact pc (kE p.low)|exact pc (kE p.high)|exact pc (iT p.low)|exact pc (iT p.high)|exact af) (by exact rfl) ?_)
 · refine⟨.inr rfl,Ent.b (Eq.symm ?_)⟩;unfold pQ;rw[show uD p=true from hc];rfl
 · refine⟨.inr rfl,Ent.b (Eq.symm ?_)⟩;unfold pQ;rw[show uD p=false from hc];rfl
theorem dD {α:Type} [Inhabited α] {l:List α} {k:Nat} (h:k<l.length):l.getD k default∈l:=by
 rw[show l.getD k default=l[k] by simp[List.getD,h]];exact lGm h
theorem pR (l:List Part) (fv:AV) (p:Part→Bool) (hp:∀x∈l,bF Tryz.prog fv [.agg (bz x)] (.b (p x))) (hl:l.length≤9223372036854775807) :
 PCall Tryz.prog 258 [.sl 13 (l.map bz) .no,fv] (.int (az p l)):=by
 refine PCall.di [1] Tryz.func258 rfl rfl Tryz.ntmps258 rfl rfl ?_
 repeat' (first|refine qT ?_|apply sqW|refine rgK fun U V=>?_|(refine aN V ?_;clear V U)|refine blK ?_)
 refine lpW (ι:=Nat) (fun k=>[(0,.sl 13 (l.map bz) .no),(1,.ext fv),(7,.int l.length),(8,.int k)]) (fun _=>[]) (fun k=>k≤l.length∧∀j,j<k→p (l.getD j default)=false) (fun k=>l.length - k) 0 ⟨nZl _,fun j h=>absurd h oM⟩ ⟨rfl,rfl,rfl,rfl,tI⟩ rfl ?_;rintro k ⟨hk,au⟩;by_cases hlt:k<l.length
 · repeat' (first|refine qP ?_ (h:=fun hg=>by first|exact aa|exact PRun.fx (hp _ (dD hlt)) rfl rfl nd rfl nds|exact af)|apply sqW|refine rgK fun U V=>?_|(refine aN V ?_;clear V U)|refine cX ?_ ?_<;>intro hc<;>try simp only[dE] at hc|refine blK ?_|refine exW ?_|refine skW ?_|refine rtW ?_)
   · refine⟨.inr rfl,?_⟩;rw[show az p l=k from bP hlt hc au];exact fun _ _ h=>h
   · exact⟨k+1,⟨oM,fun j hj=>aH au hc hj⟩,oM,⟨rfl,rfl,rfl,rfl,tI⟩,rfl⟩
   · exfalso;omega
 · repeat' (first|refine qT ?_|apply sqW|refine rgK fun U V=>?_|(refine aN V ?_;clear V U)|refine cX ?_ ?_<;>intro hc<;>try simp only[dE] at hc|refine blK ?_|refine exW ?_|refine skW ?_|refine rtW ?_)
   · exfalso;omega
   · refine⟨.inr rfl,?_⟩;rw[show az p l = -1 from bX fun j hj=>au j oM];exact fun _ _ h=>h
theorem zA (l:List Bar) (fv:AV) (p:Bar→Bool) (hp:∀x∈l,bF Tryz.prog fv [.agg (cS x)] (.b (p x))) (hl:l.length≤9223372036854775807) :
 PCall Tryz.prog 248 [.sl 4 (l.map cS) .no,fv] (.int (az p l)):=by
 refine PCall.di [1] Tryz.func248 rfl rfl Tryz.ntmps248 rfl rfl ?_
 repeat' (first|refine qT ?_|apply sqW|refine rgK fun U V=>?_|(refine aN V ?_;clear V U)|refine aB ?_|refine aS ?_|refine aA ?_|refine cX ?_ ?_<;>intro hc<;>try simp only[dE] at hc|refine blK ?_|refine exW ?_|refine skW ?_|refine rtW ?_|refine kD fun U V=>?_|refine lD fun U V=>?_|(refine aqN (V _ ?_);clear V U)|refine aqN ?_|refine aqQ rfl rfl (fun hg=>by first|exact aa|exact af) (by exact rfl) ?_)
 refine lpW (ι:=Nat) (fun k=>[(0,.sl 4 (l.map cS) .no),(1,.ext fv),(7,.int l.length),(8,.int k)]) (fun _=>[]) (fun k=>k≤l.length∧∀j,j<k→p (l.getD j default)=false) (fun k=>l.length - k) 0 ⟨nZl _,fun j h=>absurd h oM⟩ ⟨rfl,rfl,rfl,rfl,tI⟩ rfl ?_;rintro k ⟨hk,au⟩;by_cases hlt:k<l.length
 · repeat' (first|refine qP ?_ (h:=fun hg=>by first|exact aa|exact PRun.fx (hp _ (dD hlt)) rfl rfl nd rfl nds|exact af)|apply sqW|refine rgK fun U V=>?_|(refine aN V ?_;clear V U)|refine aB ?_|refine aS ?_|refine aA ?_|refine cX ?_ ?_<;>intro hc<;>try simp only[dE] at hc|refine blK ?_|refine exW ?_|refine skW ?_|refine rtW ?_|refine kD fun U V=>?_|refine lD fun U V=>?_|(refine aqN (V _ ?_);clear V U)|refine aqN ?_|refine aqQ rfl rfl (fun hg=>by first|exact aa|exact PRun.fx (hp _ (dD hlt)) rfl rfl nd rfl nds|exact af) (by exact rfl) ?_)
   · refine⟨.inr rfl,?_⟩;rw[show az p l=k from bP hlt hc au];exact fun _ _ h=>h
   · exact⟨k+1,⟨oM,fun j hj=>aH au hc hj⟩,oM,⟨rfl,rfl,rfl,rfl,tI⟩,rfl⟩
   · exfalso;omega
 · repeat' (first|refine qT ?_|apply sqW|refine rgK fun U V=>?_|(refine aN V ?_;clear V U)|refine aB ?_|refine aS ?_|refine aA ?_|refine cX ?_ ?_<;>intro hc<;>try simp only[dE] at hc|refine blK ?_|refine exW ?_|refine skW ?_|refine rtW ?_|refine kD fun U V=>?_|refine lD fun U V=>?_|(refine aqN (V _ ?_);clear V U)|refine aqN ?_|refine aqQ rfl rfl (fun hg=>by first|exact aa|exact af) (by exact rfl) ?_)
   · exfalso;omega
   · refine⟨.inr rfl,?_⟩;rw[show az p l = -1 from bX fun j hj=>au j oM];exact fun _ _ h=>h
theorem xR (l:List bk) (fv:AV) (p:bk→Bool) (hp:∀x∈l,bF Tryz.prog fv [.agg (bQ x)] (.b (p x))) (hl:l.length≤9223372036854775807) :
 PCall Tryz.prog 264 [.sl 12 (l.map bQ) .no,fv] (.int (az p l)):=by
 refine PCall.di [1] Tryz.func264 rfl rfl Tryz.ntmps264 rfl rfl ?_
 repeat' (first|refine qT ?_|apply sqW|refine rgK fun U V=>?_|(refine aN V ?_;clear V U)|refine blK ?_)
 refine lpW (ι:=Nat) (fun k=>[(0,.sl 12 (l.map bQ) .no),(1,.ext fv),(7,.int l.length),(8,.int k)]) (fun _=>[]) (fun k=>k≤l.length∧∀j,j<k→p (l.getD j default)=false) (fun k=>l.length - k) 0 ⟨nZl _,fun j h=>absurd h oM⟩ ⟨rfl,rfl,rfl,rfl,tI⟩ rfl ?_;rintro k ⟨hk,au⟩;by_cases hlt:k<l.length
 · repeat' (first|refine qP ?_ (h:=fun hg=>by first|exact aa|exact PRun.fx (hp _ (dD hlt)) rfl rfl nd rfl nds|exact af)|apply sqW|refine rgK fun U V=>?_|(refine aN V ?_;clear V U)|refine cX ?_ ?_<;>intro hc<;>try simp only[dE] at hc|refine blK ?_|refine exW ?_|refine skW ?_|refine rtW ?_)
   · refine⟨.inr rfl,?_⟩;rw[show az p l=k from bP hlt hc au];exact fun _ _ h=>h
   · exact⟨k+1,⟨oM,fun j hj=>aH au hc hj⟩,oM,⟨rfl,rfl,rfl,rfl,tI⟩,rfl⟩
   · exfalso;omega
 · repeat' (first|refine qT ?_|apply sqW|refine rgK fun U V=>?_|(refine aN V ?_;clear V U)|refine cX ?_ ?_<;>intro hc<;>try simp only[dE] at hc|refine blK ?_|refine exW ?_|refine skW ?_|refine rtW ?_)
   · exfalso;omega
   · refine⟨.inr rfl,?_⟩;rw[show az p l = -1 from bX fun j hj=>au j oM];exact fun _ _ h=>h
theorem vY (l:List Part) (fv:AV) (p:Part→Bool) (hp:∀x∈l,bF Tryz.prog fv [.agg (bz x)] (.b (p x))) (hl:l.length≤9223372036854775807) :
 PCall Tryz.prog 202 [.sl 13 (l.map bz) .no,fv] (.b (decide (az p l≥0))):=by
 refine PCall.di [1] Tryz.func202 rfl rfl Tryz.ntmps202 rfl rfl ?_
 repeat' (first|refine qP ?_ (h:=fun hg=>by first|exact aa|exact pc (pR l fv p hp hl)|exact af)|apply sqW|refine rgK fun U V=>?_|(refine aN V ?_;clear V U)|refine rtW ?_)
 exact⟨.inr rfl,fun _ _ h=>h⟩
theorem pf (l:List bk) (fv:AV) (p:bk→Bool) (hp:∀x∈l,bF Tryz.prog fv [.agg (bQ x)] (.b (p x))) (hl:l.length≤9223372036854775807) :
 PCall Tryz.prog 208 [.sl 12 (l.map bQ) .no,fv] (.b (decide (az p l≥0))):=by
 refine PCall.di [1] Tryz.func208 rfl rfl Tryz.ntmps208 rfl rfl ?_
 repeat' (first|refine qP ?_ (h:=fun hg=>by first|exact aa|exact pc (xR l fv p hp hl)|exact af)|apply sqW|refine rgK fun U V=>?_|(refine aN V ?_;clear V U)|refine rtW ?_)
 exact⟨.inr rfl,fun _ _ h=>h⟩
def kY (i:Int):Int×Bool:=(max i 0,decide (i≥0))
theorem s5 (x:Part) (id:Int):PCall Tryz.prog 271 [.agg (bz x),.iptr [(.fn (.func 219) [] [])],.iptr [.int id]] (.b (x.id==id)):=by
 refine PCall.body Tryz.func271 rfl rfl Tryz.ntmps271 rfl rfl ?_
 repeat' (first|refine qS ?_|apply sqW|refine rgK fun U V=>?_|(refine aN V ?_;clear V U)|refine aB ?_|refine rtW ?_|refine kD fun U V=>?_|(refine aqN (V _ ?_);clear V U)|refine aqQ rfl rfl (fun hg=>by first|exact aa|exact pc (zx x)|exact af) (by exact rfl) ?_)
 exact⟨.inr rfl,Ent.b rfl⟩
theorem uE (l:List Part) (id:Int) (hl:l.length≤9223372036854775807):PCall Tryz.prog 218 [.sl 13 (l.map bz) .no,.int id,(.fn (.func 219) [] [])]
 (.tup [.int (kY (az (fun x:Part=>x.id==id) l)).1,.b (kY (az (fun x:Part=>x.id==id) l)).2]):=by
 have hf:∀x:Part,bF Tryz.prog (.fn (.func 271) [] [.iptr [(.fn (.func 219) [] [])],.iptr [.int id]]) [.agg (bz x)] (.b (x.id==id)):=fun x=>⟨_,[],_,rfl,s5 x id⟩
 have h:=pR l _ (fun x:Part=>x.id==id) (fun x _=>hf x) hl;refine PCall.body Tryz.func218 rfl rfl Tryz.ntmps218 rfl rfl ?_
 repeat' (first|refine qP ?_ (h:=fun hg=>by first|exact aa|exact pbW (h) rfl rfl nd rfl rfl nds|exact af)|apply sqW|refine rgK fun U V=>?_|(refine aN V ?_;clear V U)|refine aB ?_|refine rtW ?_)
 exact⟨.inr rfl,Ent.t2 rfl rfl⟩
theorem uF (x:Bar) (id:Int):PCall Tryz.prog 249 [.agg (cS x),.iptr [(.fn (.func 187) [] [])],.iptr [.int id]] (.b (x.id==id)):=by
 refine PCall.body Tryz.func249 rfl rfl Tryz.ntmps249 rfl rfl ?_
 repeat' (first|refine qP ?_ (h:=fun hg=>by first|exact aa|exact pc (sZ x)|exact af)|apply sqW|refine rgK fun U V=>?_|(refine aN V ?_;clear V U)|refine aB ?_|refine aS ?_|refine aA ?_|refine cX ?_ ?_<;>intro hc<;>try simp only[dE] at hc|refine blK ?_|refine exW ?_|refine skW ?_|refine rtW ?_|refine kD fun U V=>?_|refine lD fun U V=>?_|(refine aqN (V _ ?_);clear V U)|refine aqN ?_|refine aqQ rfl rfl (fun hg=>by first|exact aa|exact pc (sZ x)|exact af) (by exact rfl) ?_)
 exact⟨.inr rfl,Ent.b rfl⟩
theorem pg (l:List Bar) (id:Int) (hl:l.length≤9223372036854775807):PCall Tryz.prog 186 [.sl 4 (l.map cS) .no,.int id,(.fn (.func 187) [] [])]
 (.tup [.int (kY (az (fun x:Bar=>x.id==id) l)).1,.b (kY (az (fun x:Bar=>x.id==id) l)).2]):=by
 have hf:∀x:Bar,bF Tryz.prog (.fn (.func 249) [] [.iptr [(.fn (.func 187) [] [])],.iptr [.int id]]) [.agg (cS x)] (.b (x.id==id)):=fun x=>⟨_,[],_,rfl,uF x id⟩
 have h:=zA l _ (fun x:Bar=>x.id==id) (fun x _=>hf x) hl;refine PCall.body Tryz.func186 rfl rfl Tryz.ntmps186 rfl rfl ?_
 repeat' (first|refine qP ?_ (h:=fun hg=>by first|exact aa|exact pbW (h) rfl rfl nd rfl rfl nds|exact PRun.Fs rfl rfl nd rfl nd|exact af)|apply sqW|refine rgK fun U V=>?_|(refine aN V ?_;clear V U)|refine aB ?_|refine aS ?_|refine aA ?_|refine cX ?_ ?_<;>intro hc<;>try simp only[dE] at hc|refine blK ?_|refine exW ?_|refine skW ?_|refine rtW ?_|refine kD fun U V=>?_|refine lD fun U V=>?_|(refine aqN (V _ ?_);clear V U)|refine aqN ?_|refine aqQ rfl rfl (fun hg=>by first|exact aa|exact pbW (h) rfl rfl nd rfl rfl nds|exact PRun.Fs rfl rfl nd rfl nd|exact af) (by exact rfl) ?_)
 exact⟨.inr rfl,Ent.t2 rfl rfl⟩
abbrev evP (p:Part):AV:=.agg (bz p)
def lost (al:List (Int×Part)) (p:Part):Bool:=p.of_ != 0&&(!(lk al p.of_).isSome||((lk al p.of_).getD default).of_ != 0)
theorem DM (al:List (Int×Part)) (x:Part):PCall Tryz.prog 201 [.agg (bz x),.iptr [.imap (aT ekI evP al)]] (.b (lost al x)):=by
 refine PCall.body Tryz.func201 rfl rfl Tryz.ntmps201 rfl rfl ?_
 repeat' (first|refine qP ?_ (h:=fun hg=>by first|exact aa|exact PRun.lookup (ek:=ekI) (ev:=evP) (zv:=(default:Part)) (aL (lkG rfl)) (lkG rfl) (lkG rfl) rfl rfl (Rd.w rfl nd) (Or.inl rfl) (Rd.w rfl nd) rfl|exact af)|apply sqW|refine rgK fun U V=>?_|(refine aN V ?_;clear V U)|refine aB ?_|refine aS ?_|refine aA ?_|refine rtW ?_)
 exact⟨.inr rfl,Ent.b rfl⟩
def dG (l:List Part):List (Int×Part):=l.foldl (fun al p=>ins al p.id p) []
theorem xS (l:List Part) (k:Nat) (h:k<l.length):dG (l.take (k+1))=ins (dG (l.take k)) (l.getD k default).id (l.getD k default):=by
 have e:l.take (k+1)=l.take k++[l.getD k default]:=by
  rw[zC8,show l[k]? = some (l.getD k default) by simp[List.getD,h]];rfl
 rw[e];unfold dG;rw[zCl];rfl
def nE (l:List Part):Bool:=inB l.length 1 60&&l.all pQ&&(((dG l).length:Int)==(l.length:Int)&&!decide (az (lost (dG l)) l≥0))
theorem vZ (l:List Part) (hl:l.length≤9223372036854775807):PCall Tryz.prog 136 [.sl 13 (l.map bz) .no] (.b (nE l)):=by
 have hf:∀x:Part,bF Tryz.prog (.fn (.func 201) [] [.iptr [.imap (aT ekI evP (dG l))]]) [.agg (bz x)] (.b (lost (dG l) x)):=fun x=>⟨_,[],_,rfl,DM (dG l) x⟩
 have h:=vY l _ (lost (dG l)) (fun x _=>hf x) hl;refine PCall.body Tryz.func136 rfl rfl Tryz.ntmps136 rfl rfl ?_
 repeat' (first|refine qP ?_ (h:=fun hg=>by first|exact aa|exact pc (ei _ _ _)|exact af)|apply sqW|refine rgK fun U V=>?_|(refine aN V ?_;clear V U)|refine aS ?_|refine aA ?_|refine aoE (EStep.dn rfl rfl rfl rfl ?_)|refine cX ?_ ?_<;>intro hc<;>try simp only[dE] at hc|refine blK ?_|refine skW ?_|refine rtW ?_)
 · refine⟨.inr rfl,Ent.b (Eq.symm ?_)⟩;unfold nE;rw[show inB (l.length:Int) 1 60=false by simpa using hc];rfl
 have h0:inB (l.length:Int) 1 60=true:=by simpa using hc
 clear hc
 refine lpD (ι:=Nat) (fun k=>[(0,.sl 13 (l.map bz) .no),(3,.ptr 1 0),(12,.sl 13 (l.map bz) .no),(13,.int l.length),(14,.int k)]) (fun k=>[.map (aT ekI evP (dG (l.take k))),.var [.map 0]])
  (fun k=>k≤l.length∧∀j,j<k→pQ (l.getD j default)=true) (fun k=>l.length - k) 2 (fun _=>rfl) 0 ⟨nZl _,fun j h=>absurd h oM⟩ ⟨rfl,rfl,rfl,rfl,rfl,tI⟩ rfl (fun _ _=>rfl) (fun k _=>by simp[aD,aT,aO,bz]) ?_
 rintro k ⟨hk,au⟩;by_cases hlt:k<l.length
 · repeat' (first|refine qP ?_ (h:=fun hg=>by first|exact aa|exact pc (zz (l.getD k default))|exact af)|apply sqW|refine rgK fun U V=>?_|(refine aN V ?_;clear V U)|refine aS ?_|refine aA ?_|refine aoE (EStep.fu (ek:=ekI) (ev:=evP) (v:=l.getD k default) (aL (lkG rfl)) (lkG rfl) rfl rfl rfl (Rd.w rfl tI) rfl (Rd.w rfl tI) rfl (Rd.w rfl tI) ?_)|refine cX ?_ ?_<;>intro hc<;>try simp only[dE] at hc|refine blK ?_|refine exW ?_|refine skW ?_|refine rtW ?_)
   · refine⟨.inr rfl,Ent.b (Eq.symm ?_)⟩;unfold nE;rw[h0,xb hlt (by simpa using hc)];rfl
   · refine⟨k+1,⟨oM,fun j hj=>aH au (by simpa using hc) hj⟩,oM,⟨rfl,rfl,rfl,rfl,rfl,tI⟩,?_⟩;rw[xS l k hlt];rfl
   · exfalso;omega
 · have htk:l.take k=l:=zAh oM;have e:dG l=dG (l.take k):=by rw[htk]
   rw[e] at h;refine AWP.lj (ek:=ekI) (ev:=evP) (l:=0) (al:=dG (l.take k)) rfl (nX fun _=>rfl) ?_;refine AWP.cY [(0,.sl 13 (l.map bz) .no),(3,.ptr 1 0),(12,.sl 13 (l.map bz) .no),(13,.int l.length),(14,.int k)] ⟨rfl,rfl,rfl,rfl,rfl,tI⟩ ?_
   repeat' (first|refine qP ?_ (h:=fun hg=>by first|exact aa|exact pbW (h) rfl rfl nd rfl rfl nds|exact PRun.sM (ek:=ekI) (ev:=evP) (al:=dG (l.take k)) rfl (Rd.w rfl nd) (Or.inl rfl) (lkG rfl)|exact af)|apply sqW|refine rgK fun U V=>?_|(refine aN V ?_;clear V U)|refine aS ?_|refine aA ?_|refine cX ?_ ?_<;>intro hc<;>try simp only[dE] at hc|refine blK ?_|refine exW ?_|refine skW ?_|refine rtW ?_)
   · exfalso;omega
   all_goals (first|(exfalso;omega)|skip)
   refine⟨.inr rfl,Ent.b (Eq.symm ?_)⟩;unfold nE;rw[h0,uh fun j hj=>au j oM,e];rfl
def oC (al:List (Int×Part)) (n:bk):Bool:=!(lk al n.part).isSome
def Bz (al:List (Int×Part)) (n:bk):Bool:=!inB (ew n.pitch).1 (ew ((lk al n.part).getD default).low).1 (ew ((lk al n.part).getD default).high).1
theorem v7 (al:List (Int×Part)) (x:bk):PCall Tryz.prog 205 [.agg (bQ x),.iptr [.imap (aT ekI evP al)]] (.b (oC al x)):=by
 refine PCall.body Tryz.func205 rfl rfl Tryz.ntmps205 rfl rfl ?_
 repeat' (first|refine qP ?_ (h:=fun hg=>by first|exact aa|exact PRun.lookup (ek:=ekI) (ev:=evP) (zv:=(default:Part)) (aL (lkG rfl)) (lkG rfl) (lkG rfl) rfl rfl (Rd.w rfl nd) (Or.inl rfl) (Rd.w rfl nd) rfl|exact af)|apply sqW|refine rgK fun U V=>?_|(refine aN V ?_;clear V U)|refine aB ?_|refine aS ?_|refine aA ?_|refine rtW ?_)
 exact⟨.inr rfl,Ent.b rfl⟩
theorem DN (al:List (Int×Part)) (x:bk):PCall Tryz.prog 206 [.agg (bQ x),.iptr [.imap (aT ekI evP al)]] (.b (Bz al x)):=by
 refine PCall.body Tryz.func206 rfl rfl Tryz.ntmps206 rfl rfl ?_
 repeat' (first|refine qP ?_ (h:=fun hg=>by first|exact aa|exact PRun.lookup (ek:=ekI) (ev:=evP) (zv:=(default:Part)) (aL (lkG rfl)) (lkG rfl) (lkG rfl) rfl rfl (Rd.w rfl nd) (Or.inl rfl) (Rd.w rfl nd) rfl|exact af)|apply sqW|refine rgK fun U V=>?_|(refine aN V ?_;clear V U)|refine aB ?_|refine aS ?_|refine aA ?_|refine rtW ?_|refine kD fun U V=>?_|(refine aqN (V _ ?_);clear V U)|refine aqQ rfl rfl (fun hg=>by first|exact aa|exact pc (iT x.pitch)|exact pcW (iT ((lk al x.part).getD default).low) rfl rfl nd rfl nds|exact pcW (iT ((lk al x.part).getD default).high) rfl rfl nd rfl nds|exact pc (ei _ _ _)|exact af) (by exact rfl) ?_)
 exact⟨.inr rfl,Ent.b rfl⟩
def ff (l:List Part):List (Int×Part):=dG (l.filter fun p=>p.of_==0)
theorem s6 (l:List Part) (k:Nat) (h:k<l.length):ff (l.take (k+1))=if (l.getD k default).of_==0 then ins (ff (l.take k)) (l.getD k default).id (l.getD k default) else ff (l.take k):=by
 have e:l.take (k+1)=l.take k++[l.getD k default]:=by
  rw[zC8,show l[k]? = some (l.getD k default) by simp[List.getD,h]];rfl
 unfold ff;rw[e,List.filter_append];by_cases h2:((l.getD k default).of_==0)=true
 · rw[if_pos h2,zCy (p:=fun p:Part=>p.of_==0) h2];unfold dG;rw[List.filter_nil,zCl];rfl
 · rw[if_neg h2,zCz (p:=fun p:Part=>p.of_==0) h2,List.filter_nil,zCm]
def pS (parts:List Part) (l:List bk):Int:=if az (oC (ff parts)) l≥0 then 22 else if az (Bz (ff parts)) l≥0 then 20 else 0
theorem BA (parts:List Part) (l:List bk) (hp:parts.length≤9223372036854775807) (hl:l.length≤9223372036854775807):PCall Tryz.prog 138 [.sl 13 (parts.map bz) .no,.sl 12 (l.map bQ) .no] (.int (pS parts l)):=by
 have hf1:∀x:bk,bF Tryz.prog (.fn (.func 205) [] [.iptr [.imap (aT ekI evP (ff parts))]]) [.agg (bQ x)] (.b (oC (ff parts) x)):=fun x=>⟨_,[],_,rfl,v7 (ff parts) x⟩
 have hf2:∀x:bk,bF Tryz.prog (.fn (.func 206) [] [.iptr [.imap (aT ekI evP (ff parts))]]) [.agg (bQ x)] (.b (Bz (ff parts) x)):=fun x=>⟨_,[],_,rfl,DN (ff parts) x⟩
 have h1:=pf l _ (oC (ff parts)) (fun x _=>hf1 x) hl;have h2:=pf l _ (Bz (ff parts)) (fun x _=>hf2 x) hl;refine PCall.body Tryz.func138 rfl rfl Tryz.ntmps138 rfl rfl ?_
 repeat' (first|refine qT ?_|apply sqW|refine rgK fun U V=>?_|(refine aN V ?_;clear V U)|refine aS ?_|refine aA ?_|refine aoE (EStep.dn rfl rfl rfl rfl ?_)|refine blK ?_)
 refine lpD (ι:=Nat) (fun k=>[(1,.sl 12 (l.map bQ) .no),(5,.ptr 1 0),(11,.sl 13 (parts.map bz) .no),(12,.int parts.length),(13,.int k)]) (fun k=>[.map (aT ekI evP (ff (parts.take k))),.var [.map 0]])
  (fun k=>k≤parts.length) (fun k=>parts.length - k) 2 (fun _=>rfl) 0 (nZl _) ⟨rfl,rfl,rfl,rfl,rfl,tI⟩ rfl (fun _ _=>rfl) (fun k _=>by simp[aD,aT,aO,bz]) ?_
 intro k hk;by_cases hlt:k<parts.length
 · repeat' (first|refine qT ?_|apply sqW|refine rgK fun U V=>?_|(refine aN V ?_;clear V U)|refine aS ?_|refine aA ?_|refine aoE (EStep.fu (ek:=ekI) (ev:=evP) (v:=parts.getD k default) (aL (lkG rfl)) (lkG rfl) rfl rfl rfl (Rd.w rfl tI) rfl (Rd.w rfl tI) rfl (Rd.w rfl tI) ?_)|refine cX ?_ ?_<;>intro hc<;>try simp only[dE] at hc|refine blK ?_|refine exW ?_|refine skW ?_)
   · refine⟨k+1,oM,oM,⟨rfl,rfl,rfl,rfl,rfl,tI⟩,?_⟩;rw[s6 parts k hlt,if_pos (by simpa using hc)];rfl
   · refine⟨k+1,oM,oM,⟨rfl,rfl,rfl,rfl,rfl,tI⟩,?_⟩;rw[s6 parts k hlt,if_neg (by simpa using hc)];rfl
   · exfalso;omega
 · have htk:parts.take k=parts:=zAh oM;have e:ff parts=ff (parts.take k):=by rw[htk]
   rw[e] at h1 h2;refine AWP.lj (ek:=ekI) (ev:=evP) (l:=0) (al:=ff (parts.take k)) rfl (nX fun _=>rfl) ?_;refine AWP.cY [(1,.sl 12 (l.map bQ) .no),(5,.ptr 1 0),(11,.sl 13 (parts.map bz) .no),(12,.int parts.length),(13,.int k)] ⟨rfl,rfl,rfl,rfl,rfl,tI⟩ ?_
   repeat' (first|refine qP ?_ (h:=fun hg=>by first|exact aa|exact pbW (h1) rfl rfl nd rfl rfl nds|exact pbW (h2) rfl rfl nd rfl rfl nds|exact af)|apply sqW|refine rgK fun U V=>?_|(refine aN V ?_;clear V U)|refine aS ?_|refine aA ?_|refine cX ?_ ?_<;>intro hc<;>try simp only[dE] at hc|refine blK ?_|refine exW ?_|refine skW ?_|refine rtW ?_)
   all_goals (first|(exfalso;omega)|skip)
   · refine⟨.inr rfl,Ent.int (Eq.symm ?_)⟩;unfold pS;rw[e,if_pos (by simpa using hc)]
   · rename_i hc0;refine⟨.inr rfl,Ent.int (Eq.symm ?_)⟩;unfold pS;rw[e,if_neg (by simpa using hc0),if_pos (by simpa using hc)]
   · rename_i hc0;refine⟨.inr rfl,Ent.int (Eq.symm ?_)⟩;unfold pS;rw[e,if_neg (by simpa using hc0),if_neg (by simpa using hc)]
structure Score where
 version:Int
 bars:List Bar
 parts:List Part
 notes:List bk
 deriving DecidableEq,Inhabited
def bg (s:Score):List AV:=[.int s.version,.sl 4 (s.bars.map cS) .no,.sl 13 (s.parts.map bz) .no,.sl 12 (s.notes.map bQ) .no]
def Score.Small (s:Score):Prop:=s.bars.length≤1000000000∧s.parts.length≤1000000000∧s.notes.length≤1000000000
def kb (s:Score):Bool:=!inB s.version 1 1000000||!dQ s.bars||!nE s.parts||!fk s.bars s.notes||pS s.parts s.notes != 0
def bG (s:Score):Bool:=!kb s&&((jN s.bars s.notes).2==0&&(jN s.bars s.notes).1==s.notes)
theorem DO (bars:List Bar) (l:List bk):(jN bars l).1.length≤l.length:=by
 unfold jN;split
 · simp[my]
 · simp
theorem dz (s:Score) (hs:s.Small):PCall Tryz.prog 67 [.agg (bg s)] (.b (bG s)):=by
 obtain⟨h1,h2,h3⟩:=hs;have v1:=iR s.bars oM;have v2:=vZ s.parts oM;have v3:=qZ s.bars s.notes oM oM;have v4:=BA s.parts s.notes oM oM;have v5:=DL s.bars s.notes h1 h3;have hq:=DO s.bars s.notes;have v6:=zw (jN s.bars s.notes).1 s.notes oM oM;refine PCall.body Tryz.func67 rfl rfl Tryz.ntmps67 rfl rfl ?_
 repeat' (first|refine qP ?_ (h:=fun hg=>by first|exact aa|exact pc (oB _)|exact pc v1|exact pc v2|exact pc v3|exact pc v4|exact pc v5|exact pc v6|exact af)|apply sqW|refine rgK fun U V=>?_|(refine aN V ?_;clear V U)|refine aB ?_|refine cX ?_ ?_<;>intro hc<;>try simp only[dE] at hc|refine skW ?_|refine rtW ?_)
 · refine⟨.inr rfl,Ent.b (Eq.symm ?_)⟩;unfold bG;rw[show kb s=true from hc];rfl
 · refine⟨.inr rfl,Ent.b (Eq.symm ?_)⟩;unfold bG;rw[show kb s=false from hc];rfl
def s7 (s:Score) (id:Int):Bool:=bG s&&inB id 1 1000000
theorem s8 (s:Score) (hs:s.Small) (id:Int):PCall Tryz.prog 185 [.agg (bg s),.int id] (.b (s7 s id)):=by
 refine PCall.body Tryz.func185 rfl rfl Tryz.ntmps185 rfl rfl ?_
 repeat' (first|refine qP ?_ (h:=fun hg=>by first|exact aa|exact pc (dz s hs)|exact pc (oB _)|exact af)|apply sqW|refine rgK fun U V=>?_|(refine aN V ?_;clear V U)|refine aB ?_|refine rtW ?_)
 exact⟨.inr rfl,Ent.b rfl⟩
def idR (ok:Bool) (i:Int):Int×Bool×Int:=if ok then ((kY i).1,(kY i).2,0) else (0,false,1)
def at3 (r:Int×Bool×Int):AV:=.tup [.int r.1,.b r.2.1,.int r.2.2]
def r7 (s:Score) (id:Int):Int×Bool×Int:=idR (s7 s id) (az (fun x:Bar=>x.id==id) s.bars)
def oD (s:Score) (id:Int):Int×Bool×Int:=idR (s7 s id) (az (fun x:Part=>x.id==id) s.parts)
theorem DP (s:Score) (hs:s.Small) (id:Int):PCall Tryz.prog 119 [.agg (bg s),.int id] (at3 (r7 s id)):=by
 have ha:=s8 s hs id;obtain⟨h1,h2,h3⟩:=hs;refine PCall.body Tryz.func119 rfl rfl Tryz.ntmps119 rfl rfl ?_
 repeat' (first|refine qP ?_ (h:=fun hg=>by first|exact aa|exact pc ha|exact pc (pg s.bars id oM)|exact af)|apply sqW|refine rgK fun U V=>?_|(refine aN V ?_;clear V U)|refine aB ?_|refine aS ?_|refine aA ?_|refine cX ?_ ?_<;>intro hc<;>try simp only[dE] at hc|refine blK ?_|refine exW ?_|refine skW ?_|refine rtW ?_|refine kD fun U V=>?_|refine lD fun U V=>?_|(refine aqN (V _ ?_);clear V U)|refine aqN ?_|refine aqQ rfl rfl (fun hg=>by first|exact aa|exact pc ha|exact pc (pg s.bars id oM)|exact af) (by exact rfl) ?_)
 · refine⟨.inr rfl,Ent.of ?_⟩;rw[show r7 s id=(0,false,1) from by unfold r7 idR;rw[if_neg (by simpa using hc)]];rfl
 · refine⟨.inr rfl,Ent.of ?_⟩;unfold r7 idR;rw[if_pos (by simpa using hc)];rfl
theorem BB (s:Score) (hs:s.Small) (id:Int):PCall Tryz.prog 155 [.agg (bg s),.int id] (at3 (oD s id)):=by
 have ha:=s8 s hs id;obtain⟨h1,h2,h3⟩:=hs;refine PCall.body Tryz.func155 rfl rfl Tryz.ntmps155 rfl rfl ?_
 repeat' (first|refine qP ?_ (h:=fun hg=>by first|exact aa|exact pc ha|exact pc (uE s.parts id oM)|exact af)|apply sqW|refine rgK fun U V=>?_|(refine aN V ?_;clear V U)|refine aB ?_|refine cX ?_ ?_<;>intro hc<;>try simp only[dE] at hc|refine skW ?_|refine rtW ?_)
 · refine⟨.inr rfl,Ent.of ?_⟩;rw[show oD s id=(0,false,1) from by unfold oD idR;rw[if_neg (by simpa using hc)]];rfl
 · refine⟨.inr rfl,Ent.of ?_⟩;unfold oD idR;rw[if_pos (by simpa using hc)];rfl
theorem ex4 {σ:ae} (h:σ.length=4):σ=[σ.getD 0 .dead,σ.getD 1 .dead,σ.getD 2 .dead,σ.getD 3 .dead]:=by
 match σ,h with
 |[a,b,c,d],_=>rfl
end Go.Proofs.YthiaimakjmhegaaGreatDoor
namespace Go.Ab
theorem Ent.agg {us vs:List AV} (hl:us.length=vs.length) (h:∀(i:Nat) (u v:AV),us[i]? = some u→vs[i]? = some v→Ent u v):Ent (.agg us) (.agg vs):=fun M x hx=>by
 cases hx with
 | agg _ xs h1 h2 =>
   refine .agg vs xs (by rw[h1,hl]) fun i c hi=>?_
   have hlt:i<us.length:=by
    rw[hl];rcases nLg i vs.length with h|h
    · exact h
    · simp[zA3 h] at hi
   exact h i us[i] c (zA1 hlt) hi M _ (h2 i _ (zA1 hlt))
end Go.Ab
namespace Go.Proofs.YthiaimakjmhegaaGreatDoor
open Go.Ab
attribute [local irreducible] AWP AOps EStep AQ PStep PRun PCall TCall VCall
theorem lu {es:List (List AV)} (h:∀e∈es,e.all qz=true):∀e∈es,∀a∈e,∀M B x,ag M B a x→ag M [] a x:=fun e he a ha _ _ _ hx=>vj (zA4.1 (h e he) a ha) hx
end Go.Proofs.YthiaimakjmhegaaGreatDoor
