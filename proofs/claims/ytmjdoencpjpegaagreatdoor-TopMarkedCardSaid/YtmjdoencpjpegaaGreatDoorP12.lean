/- Parts of the proof. No statement is proved here. -/
import Derived.Test.YtmjdoencpjpegaaGreatDoorP8
import Derived.Test.YtmjdoencpjpegaaGreatDoorP9
set_option linter.unusedVariables false
set_option linter.unusedSimpArgs false
set_option maxHeartbeats 16000000
set_option maxRecDepth 20000
namespace Go.Proofs.YtmjdoencpjpegaaGreatDoor
open Go.Ab
attribute [local irreducible] AWP AOps EStep AQ PStep PRun PCall TCall VCall
def orL:List Int→Int
 |[]=>0
 |x::r=>if x=0 then orL r else x
theorem zb:∀{l:List Int},(∀j,j<l.length→l.getD j default=0)→orL l=0
 |[],_=>rfl
 | x :: r, h => by
   have h0:x=0:=by simpa using h 0 sMp
   rw[orL,if_pos h0];exact zb fun j hj=>by simpa using h (j+1) (by simpa using hj)
theorem wQ:∀{l:List Int} {k:Nat},k<l.length→(∀j,j<k→l.getD j default=0)→l.getD k default≠0→orL l=l.getD k default
 |[],k,hk,_,_=>absurd hk sMp
 | x :: r, 0, _, _, h1 => by
   have h2:x≠0:=by simpa using h1
   simp[orL,h2]
 | x :: r, k + 1, hk, h, h1 => by
   have h0:x=0:=by simpa using h 0 oM
   have h2:=wQ (l:=r) (k:=k) (by simpa using hk) (fun j hj=>by simpa using h (j+1) oM) (by simpa using h1);rw[orL,if_pos h0,h2];simp
theorem vX (l:List Int) (hl:l.length≤9223372036854775807):PCall Tryz.prog 101 [.sl 1 (l.map fun n=>[AV.int n]) .no] (.int (orL l)):=by
 refine PCall.body Tryz.func101 rfl rfl Tryz.ntmps101 rfl rfl ?_
 repeat' (first|refine qT ?_|apply sqW|refine rgK fun U V=>?_|(refine aN V ?_;clear V U)|refine blK ?_)
 refine lpD (ι:=Nat) (fun k=>[(3,.int 0),(6,.sl 1 (l.map fun n=>[AV.int n]) .no),(7,.int l.length),(8,.int k)]) (fun _=>[])
  (fun k=>k≤l.length∧∀j,j<k→l.getD j default=0) (fun k=>l.length - k) 0 (fun _=>rfl) 0 ⟨nZl _,fun j h=>absurd h oM⟩ ⟨rfl,rfl,rfl,rfl,tI⟩ rfl (fun _ _=>rfl) (fun k _=>by simp[ak,aG]) ?_
 rintro k ⟨hk,hz⟩;by_cases hlt:k<l.length
 · repeat' (first|refine qT ?_|apply sqW|refine rgK fun U V=>?_|(refine aN V ?_;clear V U)|refine cX ?_ ?_<;>intro hc<;>try simp only[dE] at hc|refine blK ?_|refine exW ?_|refine skW ?_|refine rtW ?_)
   · refine⟨.inr rfl,Ent.int ?_⟩;rw[zAj] at hc ⊢;exact(wQ hlt hz (by simpa using hc)).symm
   · rw[zAj] at hc;exact⟨k+1,⟨oM,fun j hj=>bA hz (by simpa using hc) hj⟩,oM,⟨rfl,rfl,rfl,rfl,tI⟩,rfl⟩
   · exfalso;omega
 · repeat' (first|refine qT ?_|apply sqW|refine rgK fun U V=>?_|(refine aN V ?_;clear V U)|refine cX ?_ ?_<;>intro hc<;>try simp only[dE] at hc|refine blK ?_|refine exW ?_|refine skW ?_|refine rtW ?_)
   · exfalso;omega
   · exfalso;omega
   · refine⟨.inr rfl,Ent.int ?_⟩;exact(zb fun j hj=>hz j oM).symm
theorem zc (p:gg):-1000≤(eN p).1∧(eN p).1≤1000:=by
 unfold eN;split
 · rename_i h;have h1:=sQ.1 h;have h2:=BH p.step.toNat;unfold pC;dsimp only;omega
 · exact⟨by decide,by decide⟩
def gK (n:ag):Prop:=(1≤n.id∧n.id≤1000000)∧(1≤n.part∧n.part≤1000000)∧0≤n.eA∧n.eA≤9
def lk0 (al:List (Int×Int)) (k:Int):Int:=(lk al k).getD 0
def vY (al:List (Int×Int)) (x y:ag):Int:=orL [lk0 al x.bar - lk0 al y.bar,x.part - y.part,(dp x.start).1 - (dp y.start).1,x.eA - y.eA,(eN x.pitch).1 - (eN y.pitch).1,x.id - y.id]
theorem EL {al:List (Int×Int)} (hal:∀k i,lk al k=some i→0≤i∧i<4611686018427387904) (k:Int):0≤lk0 al k∧lk0 al k<4611686018427387904:=by
 unfold lk0;cases h:lk al k with
 |none=>exact⟨by decide,by decide⟩
 |some i=>exact hal k i h
theorem EM (al:List (Int×Int)) (hal:∀k i,lk al k=some i→0≤i∧i<4611686018427387904) (x y:ag) (hx:gK x) (hy:gK y) :
 PCall Tryz.prog 187 [.agg (ar x),.agg (ar y),.iptr [.imap (aD ekI AV.int al)]] (.int (vY al x y)):=by
 obtain⟨⟨a1,a2⟩,⟨a3,a4⟩,a5,a6⟩:=hx;obtain⟨⟨b1,b2⟩,⟨b3,b4⟩,b5,b6⟩:=hy;have c1:=nJ x.start;have c2:=nJ y.start;have d1:=zc x.pitch;have d2:=zc y.pitch;have e1:=EL hal x.bar;have e2:=EL hal y.bar;unfold lk0 at e1 e2;have ho:=vX [lk0 al x.bar - lk0 al y.bar,x.part - y.part,(dp x.start).1 - (dp y.start).1,x.eA - y.eA,(eN x.pitch).1 - (eN y.pitch).1,x.id - y.id] sMp;refine PCall.body Tryz.func187 rfl rfl Tryz.ntmps187 rfl rfl ?_
 repeat' (first|refine qP ?_ (h:=fun hg=>by first|exact ae|exact pc (kF x.start)|exact pc (kF y.start)|exact pc (mP x.pitch)|exact pc (mP y.pitch)|exact PRun.lookup (ek:=ekI) (ev:=AV.int) (zv:=0) (ay (lkG rfl)) (lkG rfl) (lkG rfl) rfl rfl (Rd.w rfl nd) (Or.inl rfl) (Rd.w rfl nd) rfl|exact pbS ab rfl rfl nds|exact pc ho|exact ah)|apply sqW|refine rgK fun U V=>?_|(refine aN V ?_;clear V U)|refine aB ?_|refine rtW ?_)
 exact⟨.inr rfl,Ent.int rfl⟩
end Go.Proofs.YtmjdoencpjpegaaGreatDoor
namespace Go.Proofs.YtmjdoencpjpegaaGreatDoor
open Go.Ab Go.Sort
def fM (a b:List Int):Int:=orL (List.zipWith (· - ·) a b)
theorem BL:∀l:List Int,orL (l.map fun x => -x) = - orL l
 |[]=>rfl
 | x :: r => by
   have:=BL r;by_cases h:x=0
   · subst h;simp[orL,this]
   · simp[orL,h]
theorem fq (a b:List Int):fM b a = - fM a b:=by
 unfold fM;rw[←BL,List.map_zipWith,List.zipWith_comm];congr 1;exact congrFun (congrFun (congrArg List.zipWith (by funext x y;omega)) a) b
theorem zd (a:List Int):fM [] a=0:=by simp[fM,orL]
theorem ri (x y:Int) (a b:List Int):fM (x::a) (y::b)=if x - y=0 then fM a b else x - y:=by simp[fM,orL]
theorem vZ:∀{a b c:List Int},a.length=b.length→b.length=c.length→fM a b<0→fM b c<0→fM a c<0
 |[],b,c,_,_,h,_=>by rw[zd] at h;omega
 | x :: a, y :: b, z :: c, h1, h2, h3, h4 => by
   have ih:=vZ (a:=a) (b:=b) (c:=c) (by simpa using h1) (by simpa using h2);rw[ri] at *;split at h3<;>split at h4<;>split<;>first|omega|(exact ih h3 h4)
theorem v7:∀{a b c:List Int},a.length=b.length→b.length=c.length→fM a b≤0→fM b c≤0→fM a c≤0
 |[],b,c,_,_,_,_=>by rw[zd];omega
 | x :: a, y :: b, z :: c, h1, h2, h3, h4 => by
   have ih:=v7 (a:=a) (b:=b) (c:=c) (by simpa using h1) (by simpa using h2);rw[ri] at *;split at h3<;>split at h4<;>split<;>first|omega|(exact ih h3 h4)
def iq (al:List (Int×Int)) (x:ag):List Int:=[lk0 al x.bar,x.part,(dp x.start).1,x.eA,(eN x.pitch).1,x.id]
theorem ltN (al:List (Int×Int)) (f:ag→ag) (x y:ag):Go.Proofs.ltOf (fun x y:ag=>vY al (f x) (f y)) x y=true↔fM (iq al (f x)) (iq al (f y))<0:=decide_eq_true_iff
theorem ltN' (al:List (Int×Int)) (f:ag→ag) (x y:ag):Go.Proofs.ltOf (fun x y:ag=>vY al (f x) (f y)) x y=false↔¬fM (iq al (f x)) (iq al (f y))<0:=dEf
theorem Hf (al:List (Int×Int)) (f:ag→ag):SWO (Go.Proofs.ltOf fun x y:ag=>vY al (f x) (f y)) where
 irrefl x:=by
  have:=fq (iq al (f x)) (iq al (f x));rw[ltN'];omega
 trans x y z h1 h2:=by
  rw[ltN] at *;exact vZ (a:=iq al (f x)) (b:=iq al (f y)) (c:=iq al (f z)) rfl rfl h1 h2
 ntrans x y z h1 h2:=by
  have a1:=fq (iq al (f x)) (iq al (f y));have a2:=fq (iq al (f y)) (iq al (f z));have a3:=fq (iq al (f x)) (iq al (f z));rw[ltN'] at *;have:=v7 (a:=iq al (f z)) (b:=iq al (f y)) (c:=iq al (f x)) rfl rfl oM oM;omega
end Go.Proofs.YtmjdoencpjpegaaGreatDoor
namespace Go.Proofs.YtmjdoencpjpegaaGreatDoor
open Go.Ab Go.Sort
attribute [local irreducible] AWP AOps EStep AQ PStep PRun PCall TCall VCall
theorem pJ (l:List ag):∀x∈l.map ar,x.all fb=true:=fun x hx=>by
 obtain⟨c,_,rfl⟩:=zAf.1 hx;rfl
theorem Kd (l:List ag) (hl:l.length≤1000000000) (u:AV) (hu:ak 1 (.var [u])=true) (hu2:ak 2 (.var [u])=true):TCall Tryz.prog 185 [.sl 12 (l.map ar) .no] [.var [u]]
 (fun r s=>(l=[]∧r=.nils∧s=[.var [u]])∨(r=.sla 1 12 0 l.length 0∧s=[.var [u],.arr 12 0 (l.map ar)])):=by
 have hll:(l.map ar).length=l.length:=sMp;refine TCall.body Tryz.func185 rfl rfl Tryz.ntmps185 rfl rfl ?_
 repeat' (first|refine qS ?_|apply sqW|refine rgK fun U V=>?_|(refine aN V ?_;clear V U)|refine aoE (EStep.kC ab rfl rfl rfl rfl rfl tI rfl ?_))
 intro b hb
 repeat' (first|refine qP ?_ (h:=fun hg=>by first|exact PRun.fD ab rfl rfl|exact ae|exact ah)|apply sqW|refine rgK fun U V=>?_|(refine aN V ?_;clear V U)|refine aoE (EStep.fg ab rfl rfl rfl rfl (Rd.w rfl tI) (Rd.w rfl tI) (.sl rfl (pJ _)) (lkG rfl) (lkG rfl) rfl rfl (by simp only[hll];omega) oM ?_)|refine cX ?_ ?_<;>intro hc<;>try simp only[dE] at hc|refine skW ?_|refine rtW ?_)
 · exact⟨.inr rfl,.nils,[.var [u]],.inl ⟨by simpa using hb hc,rfl,rfl⟩,rfl,nLr _,by simpa using hu,rfl,rfl⟩
 · refine⟨.inr rfl,.sla 1 12 0 (l.map ar).length 0,[.var [u],.arr 12 0 (l.map ar)],.inr ⟨by rw[hll],rfl⟩,rfl,by simp,?_,rfl,rfl⟩;simp only[zAq,zAu,zAc,zAi,zC3,Nat.reduceAdd,hu2,zBw,zC2];simp[ak,ar,aG]
instance (n:ag):Decidable (gK n):=by unfold gK;infer_instance
def kH (n:ag):ag:=if gK n then n else ⟨1,1,0,0,0,⟨0,1⟩,⟨0,1⟩,⟨0,0,0⟩⟩
theorem BM (n:ag):gK (kH n):=by
 unfold kH;split
 · assumption
 · decide
theorem BN {n:ag} (h:gK n):kH n=n:=if_pos h
def pK (n:ag):List Value:=let m:=kH n;[.int .i64 m.id,.int .i64 m.part,.int .i64 m.bar,.int .i64 m.eA,.int .i64 m.iA,.int .i64 m.start.n,.int .i64 m.start.d,.int .i64 m.len.n,.int .i64 m.len.d,.int .i64 m.pitch.step,.int .i64 m.pitch.alter,.int .i64 m.pitch.oct]
theorem ze (n:ag):(pK n).map AV.prim=ar (kH n):=rfl
def jJ (al:List (Int×Int)) (l:List ag):List ag:=jI (fun x y=>vY al (kH x) (kH y)) l
theorem nM (al:List (Int×Int)) (l:List ag):(jJ al l).length=l.length:=by
 have:=(gT _ (Hf al kH) l).1.1;simpa[jJ] using this
theorem CN (al:List (Int×Int)) (l:List ag):(jJ al l).Perm l:=by
 have h:=(gT _ (Hf al kH) l).1.2.2;have hl:=nM al l;rw[←hl] at h;unfold jJ at h hl ⊢;simp only[zDd,List.extract_toArray,List.extract_eq_take_drop,Nat.sub_zero,zE4] at h;rw[zAn (nLr _),hl,zAn (nLr _)] at h;exact h
theorem EN (al:List (Int×Int)) {l:List ag} (h:∀n∈l,gK n):(jJ al l).map (fun x=>(pK x).map AV.prim)=(jJ al l).map ar:=by
 refine zCs fun x hx=>?_
 rw[ze,BN (h x ((CN al l).mem_iff.1 hx))]
theorem Ke {l:List ag} (h:∀n∈l,gK n):l.map (fun x=>(pK x).map AV.prim)=l.map ar:=by
 refine zCs fun x hx=>?_
 rw[ze,BN (h x hx)]
theorem Ji (l:List ag):∀e∈l.map ar,∀a∈e,∀M B x,af M B a x→af M [] a x:=fun e he a ha M B x hx=>by
 obtain⟨n,_,rfl⟩:=zAf.1 he;simp only[ar,zAw,zCm,or_false] at ha;rcases ha with rfl|rfl|rfl|rfl|rfl|rfl|rfl|rfl|rfl|rfl|rfl|rfl<;>(rw[af.aP hx];exact .prim _)
theorem nN:ke Tryz.prog 186:=⟨_,Tryz.func186,rfl,rfl⟩
theorem Hg:ke Tryz.prog 187:=⟨_,Tryz.func187,rfl,rfl⟩
theorem MR (al:List (Int×Int)) (hal:∀k i,lk al k=some i→0≤i∧i<4611686018427387904) (l:List ag) (hl:l.length≤1000000000) (hin:∀n∈l,gK n) :
 TCall Tryz.prog 186 [.sla 1 12 0 l.length 0,.fn (.func 187) [] [.ptr 0 0]] [.var [.imap (aD ekI AV.int al)],.arr 12 0 (l.map ar)]
  (fun r s=>r=.tup []∧s=[.var [.imap (aD ekI AV.int al)],.arr 12 0 ((jJ al l).map ar)]):=by
 have h:=TCall.Jf (P:=Tryz.prog) (ρ:=Tryz.iN) Tryz.pE (sz:=12) Tryz.isAgg106 Tryz.sizeOf106 pK (fun _=>rfl) (fun x v hv=>by
  simp only[pK,zAw,zCm,or_false] at hv;rcases hv with rfl|rfl|rfl|rfl|rfl|rfl|rfl|rfl|rfl|rfl|rfl|rfl<;>rfl)
  (fun x y=>vY al (kH x) (kH y)) (Hf al kH) (g:=187) (aM:=[.ptr 0 0]) (σ:=[.var [.imap (aD ekI AV.int al)],.arr 12 0 (l.map ar)]) nN Hg
  (fun x y=>EM al hal (kH x) (kH y) (BM x) (BM y)) (l:=1) (ver:=0) (xs:=l) (by rw[Ke hin];rfl) oM
 refine TCall.mono h ?_;rintro r s ⟨h1,h2⟩;refine⟨h1,?_⟩;rw[h2];show[_,aF.arr 12 0 ((jJ al l).map fun x=>(pK x).map AV.prim)]=_;rw[EN al hin]
theorem EO (bars:List Bar) (hb:bars.length≤1000000000):∀k i,lk (dZ bars) k=some i→0≤i∧i<4611686018427387904:=fun k i h=>by
 rw[yO] at h;obtain⟨j,h1,h2,_⟩:=uA bars k _ i h;omega
theorem AJ (bars:List Bar) (l:List ag) (hb:bars.length≤1000000000) (hl:l.length≤1000000000) (hin:∀n∈l,gK n) :
 PCall Tryz.prog 146 [.sl 4 (bars.map bD) .no,.sl 12 (l.map ar) .no] (.sl 12 ((jJ (dZ bars) l).map ar) .no):=by
 have hi:=ra bars oM;have hc:=TCall.val (first:=[]) (aM:=[]) (avs:=[.sl 12 (l.map ar) .no]) (Kd l hl (.imap (aD ekI AV.int (dZ bars))) (by simp[ak,aG]) (by simp[ak,aG]));have hs:=TCall.val (first:=[]) (aM:=[]) (avs:=[.sla 1 12 0 l.length 0,.fn (.func 187) [] [.ptr 0 0]]) (MR (dZ bars) (EO bars hb) l hl hin);have h0:=fun u=>PCall.Je (P:=Tryz.prog) (ρ:=Tryz.iN) Tryz.pE nN u
 refine PCall.body Tryz.func146 rfl rfl Tryz.ntmps146 rfl rfl ?_
 repeat' (first|refine qP ?_ (h:=fun hg=>by first|exact ae|exact pc hi|exact ah)|apply sqW|refine rgK fun U V=>?_|(refine aN V ?_;clear V U)|refine aS ?_|refine aA ?_|refine aoE (scT (hc) rfl rfl rfl rfl rfl nd rfl rfl nds ?_))
 rintro r s (⟨h1,rfl,rfl⟩|⟨rfl,rfl⟩)
 · subst h1
   repeat' (first|refine qP ?_ (h:=fun hg=>by first|exact ae|exact pc (h0 _)|exact ah)|apply sqW|refine rgK fun U V=>?_|(refine aN V ?_;clear V U)|refine rtW ?_)
   refine⟨.inr rfl,?_⟩;rw[zAv (nM (dZ bars) [])];exact Ent.nil
 · repeat' (first|refine qS ?_|apply sqW|refine rgK fun U V=>?_|(refine aN V ?_;clear V U)|refine aoE (scT (hs) rfl rfl rfl rfl rfl nd rfl rfl nds ?_))
   rintro r s ⟨rfl,rfl⟩
   repeat' (first|refine qS ?_|apply sqW|refine rgK fun U V=>?_|(refine aN V ?_;clear V U))
   refine AWP.fP (d:=4) (l:=1) (sz:=12) (ver:=0) (es:=(jJ (dZ bars) l).map ar) (by show AV.sla 1 12 0 l.length 0=_;rw[lLm,nM]) rfl (Ji _) ?_;refine rtW ⟨.inr rfl,?_⟩;exact fun _ _ h=>h
theorem CO {bars:List Bar} {l:List ag} (h:du bars l=true):∀n∈l,gK n:=fun n hn=>by
 unfold du at h;simp only[zA0,zA6] at h;have h1:=h.1.2 n hn;have hf:iM n=true:=by
  unfold jw at h1;split at h1
  · unfold gJ at h1;simp only[zA0] at h1;exact h1.2
  · cases h1
 unfold iM at hf;simp only[zA0,inB,dEt] at hf;unfold gK;omega
def kI (bars:List Bar) (l:List ag):List ag×Int:=if du bars l then (jJ (dZ bars) l,0) else ([],1)
theorem EP (bars:List Bar) (l:List ag) (hb:bars.length≤1000000000) (hl:l.length≤1000000000) :
 PCall Tryz.prog 86 [.sl 4 (bars.map bD) .no,.sl 12 (l.map ar) .no] (.tup [.sl 12 ((kI bars l).1.map ar) .no,.int (kI bars l).2]):=by
 have v:=sR bars l oM oM;refine PCall.body Tryz.func86 rfl rfl Tryz.ntmps86 rfl rfl ?_;by_cases h:du bars l=true
 · have w:=AJ bars l hb hl (CO h)
   repeat' (first|refine qP ?_ (h:=fun hg=>by first|exact ae|exact pc v|exact pc w|exact ah)|apply sqW|refine rgK fun U V=>?_|(refine aN V ?_;clear V U)|refine cX ?_ ?_<;>intro hc<;>try simp only[dE] at hc|refine skW ?_|refine rtW ?_)
   · exfalso;simp[h] at hc
   · refine⟨.inr rfl,Ent.of ?_⟩;rw[show kI bars l=(jJ (dZ bars) l,0) from by unfold kI;rw[if_pos h]];rfl
 · repeat' (first|refine qP ?_ (h:=fun hg=>by first|exact ae|exact pc v|exact ah)|apply sqW|refine rgK fun U V=>?_|(refine aN V ?_;clear V U)|refine cX ?_ ?_<;>intro hc<;>try simp only[dE] at hc|refine skW ?_|refine rtW ?_)
   · refine⟨.inr rfl,?_⟩;rw[show kI bars l=([],1) from by unfold kI;rw[if_neg h]];exact Ent.fL Ent.nil (Ent.cB _)
   · exfalso;simp[h] at hc
end Go.Proofs.YtmjdoencpjpegaaGreatDoor
namespace Go.Proofs.YtmjdoencpjpegaaGreatDoor
open Go.Ab
attribute [local irreducible] AWP AOps EStep AQ PStep PRun PCall TCall VCall
theorem AK {α:Type} [BEq α] [LawfulBEq α] {a b:List α} (h:a.length≠b.length):(a==b)=false:=by
 cases hh:a==b with
 |false=>rfl
 |true=>exact absurd (congrArg List.length (eq_of_beq hh)) h
theorem CP {α:Type} [BEq α] [LawfulBEq α] [Inhabited α] {a b:List α} {k:Nat} (h:a.getD k default≠b.getD k default):(a==b)=false:=by
 cases hh:a==b with
 |false=>rfl
 |true=>exact absurd (by rw[eq_of_beq hh]) h
theorem AL {α:Type} [BEq α] [LawfulBEq α] [Inhabited α] {a b:List α} (hl:a.length=b.length) (h:∀j,j<a.length→a.getD j default=b.getD j default):(a==b)=true:=by
 have:a=b:=List.ext_getElem hl fun i h1 h2=>by
  have:=h i h1;simpa[List.getD,h1,h2] using this
 rw[this];simp
theorem flN:ml Tryz.prog 106=some [.int .i64,.int .i64,.int .i64,.int .i64,.int .i64,.int .i64,.int .i64,.int .i64,.int .i64,.int .i64,.int .i64,.int .i64]:=by kernel_rfl
def CQ (a b:ag):Bool:=a.id==b.id&&(a.part==b.part&&(a.bar==b.bar&&(a.eA==b.eA&&(a.iA==b.iA&&(a.start.n==b.start.n&&(a.start.d==b.start.d&&(a.len.n==b.len.n&&(a.len.d==b.len.d&&(a.pitch.step==b.pitch.step&&(a.pitch.alter==b.pitch.alter&&(a.pitch.oct==b.pitch.oct&&true)))))))))))
theorem v8 (a b:ag):CQ a b=(a==b):=by
 unfold CQ;rw[zB3];obtain⟨a1,a2,a3,a4,a5,⟨a6,a7⟩,⟨a8,a9⟩,⟨a10,a11,a12⟩⟩:=a;obtain⟨b1,b2,b3,b4,b5,⟨b6,b7⟩,⟨b8,b9⟩,⟨b10,b11,b12⟩⟩:=b;simp[and_assoc]
theorem sS (a b:List ag) (ha:a.length≤9223372036854775807) (hb:b.length≤9223372036854775807):PCall Tryz.prog 87 [.sl 12 (a.map ar) .no,.sl 12 (b.map ar) .no] (.b (a==b)):=by
 refine PCall.body Tryz.func87 rfl rfl Tryz.ntmps87 rfl rfl ?_
 repeat' (first|refine qT ?_|apply sqW|refine rgK fun U V=>?_|(refine aN V ?_;clear V U)|refine cX ?_ ?_<;>intro hc<;>try simp only[dE] at hc|refine blK ?_|refine skW ?_|refine rtW ?_)
 · refine⟨.inr rfl,Ent.b (AK ?_).symm⟩;simp only[zAj,zBn,zA0,zAl,zBr,dEt,dEf,zB1,zB0,beq_iff_eq,beq_eq_false_iff_ne,bne_iff_ne,bne_eq_false_iff_eq,gt_iff_lt,ge_iff_le,ne_eq] at hc;omega
 have hlen:a.length=b.length:=by simp only[zAj,zBn,zA0,zAl,zBr,dEt,dEf,zB1,zB0,beq_iff_eq,beq_eq_false_iff_ne,bne_iff_ne,bne_eq_false_iff_eq,gt_iff_lt,ge_iff_le,ne_eq] at hc;omega
 refine lpW (ι:=Nat) (fun k=>[(0,.sl 12 (a.map ar) .no),(1,.sl 12 (b.map ar) .no),(12,.int a.length),(13,.int k)]) (fun _=>[]) (fun k=>k≤a.length∧∀j,j<k→a.getD j default=b.getD j default) (fun k=>a.length - k) 0 ⟨nZl _,fun j h=>absurd h oM⟩ ⟨rfl,rfl,rfl,rfl,tI⟩ rfl ?_;rintro k ⟨hk,aT⟩;by_cases hlt:k<a.length
 · repeat' (first|refine qS ?_|apply sqW|refine rgK fun U V=>?_|(refine aN V ?_;clear V U)|refine cX ?_ ?_<;>intro hc<;>try simp only[dE] at hc|refine blK ?_|refine exW ?_|refine skW ?_|refine rtW ?_|refine kD fun U V=>?_|(refine aqN (V _ ?_);clear V U)|refine aqQ rfl rfl (fun hg=>by first|exact ae|exact PRun.neN flN rfl rfl nd rfl nd rfl|exact ah) (by exact rfl) ?_)
   · refine⟨.inr rfl,Ent.b (CP (k:=k) ?_).symm⟩;have h1:(!(CQ (a.getD k default) (b.getD k default)))=true:=hc;rw[v8] at h1;simpa using h1
   · refine⟨k+1,⟨oM,fun j hj=>bA aT ?_ hj⟩,oM,⟨rfl,rfl,rfl,rfl,tI⟩,rfl⟩;have h1:(!(CQ (a.getD k default) (b.getD k default)))=false:=hc;rw[v8] at h1;simpa using h1
   · exfalso;omega
 · repeat' (first|refine qS ?_|apply sqW|refine rgK fun U V=>?_|(refine aN V ?_;clear V U)|refine cX ?_ ?_<;>intro hc<;>try simp only[dE] at hc|refine blK ?_|refine exW ?_|refine skW ?_|refine rtW ?_|refine kD fun U V=>?_|refine aqQ rfl rfl (fun hg=>by first|exact ae|exact ah) (by exact rfl) ?_)
   all_goals (first|(exfalso;omega)|skip)
   exact⟨.inr rfl,Ent.b (AL hlen fun j hj=>aT j oM).symm⟩
structure Part where
 id:Int
 aV : Int
 of_:Int
 jz:Int
 jg:Int
 shift:Interval
 low:gg
 high:gg
 deriving DecidableEq,Inhabited
def bt (p:Part):List AV:=[.int p.id,.int p.aV,.int p.of_,.int p.jz,.int p.jg,.int p.shift.steps,.int p.shift.l7,.int p.low.step,.int p.low.alter,.int p.low.oct,.int p.high.step,.int p.high.alter,.int p.high.oct]
theorem eH (a b c:Int):PCall Tryz.prog 134 [.int a,.int b,.int c] (.b (inB a b c)):=by
 refine PCall.body Tryz.func134 rfl rfl Tryz.ntmps134 rfl rfl ?_
 repeat' (first|refine qS ?_|apply sqW|refine rgK fun U V=>?_|(refine aN V ?_;clear V U)|refine rtW ?_)
 exact⟨.inr rfl,Ent.b rfl⟩
theorem pL (a:Int):PCall Tryz.prog 81 [.int a] (.b (inB a 1 1000000)):=by
 refine PCall.body Tryz.func81 rfl rfl Tryz.ntmps81 rfl rfl ?_
 repeat' (first|refine qP ?_ (h:=fun hg=>by first|exact ae|exact pc (eH _ _ _)|exact ah)|apply sqW|refine rgK fun U V=>?_|(refine aN V ?_;clear V U)|refine rtW ?_)
 exact⟨.inr rfl,Ent.b rfl⟩
theorem AM (b:Part):PCall Tryz.prog 56 [.agg (bt b)] (.int b.id):=by
 refine PCall.body Tryz.func56 rfl rfl Tryz.ntmps56 rfl rfl ?_
 repeat' (first|refine qT ?_|apply sqW|refine rgK fun U V=>?_|(refine aN V ?_;clear V U)|refine aB ?_|refine aS ?_|refine aA ?_|refine cX ?_ ?_<;>intro hc<;>try simp only[dE] at hc|refine blK ?_|refine exW ?_|refine skW ?_|refine rtW ?_|refine kD fun U V=>?_|refine lD fun U V=>?_|(refine aqN (V _ ?_);clear V U)|refine aqN ?_|refine aqQ rfl rfl (fun hg=>by first|exact ae|exact ah) (by exact rfl) ?_)
 exact⟨.inr rfl,Ent.int rfl⟩
def BP (i:Interval):Bool:=(j6 i).2==0&&inB i.steps (-21) 21&&inB i.l7 (-36) 36&&inB (j6 i).1 (-12) 12
theorem AN (i:Interval):PCall Tryz.prog 177 [.agg (encI i)] (.b (BP i)):=by
 refine PCall.body Tryz.func177 rfl rfl Tryz.ntmps177 rfl rfl ?_
 repeat' (first|refine qP ?_ (h:=fun hg=>by first|exact ae|exact pc (AD i)|exact pc (eH _ _ _)|exact ah)|apply sqW|refine rgK fun U V=>?_|(refine aN V ?_;clear V U)|refine aB ?_|refine rtW ?_)
 exact⟨.inr rfl,Ent.b rfl⟩
theorem jA (p:gg):PCall Tryz.prog 144 [.agg (uv p)] (.int (eN p).1):=by
 refine PCall.body Tryz.func144 rfl rfl Tryz.ntmps144 rfl rfl ?_
 repeat' (first|refine qP ?_ (h:=fun hg=>by first|exact ae|exact pc (mP p)|exact ah)|apply sqW|refine rgK fun U V=>?_|(refine aN V ?_;clear V U)|refine aB ?_|refine rtW ?_)
 exact⟨.inr rfl,Ent.int rfl⟩
def zf (p:Part):Bool:=inB p.id 1 1000000&&inB p.aV 0 99&&inB p.of_ 0 1000000&&inB p.jz (-2) 2&&inB p.jg 1 40
def sm (p:Part):Bool:=!zf p||p.of_==p.id||(p.of_==0&&p.jz != 0)||!BP p.shift
def oU (p:Part):Bool:=!sm p&&(fQ p.low&&fQ p.high&&decide ((eN p.low).1≤(eN p.high).1))
theorem AP (p:Part):PCall Tryz.prog 137 [.agg (bt p)] (.b (oU p)):=by
 refine PCall.body Tryz.func137 rfl rfl Tryz.ntmps137 rfl rfl ?_
 repeat' (first|refine qP ?_ (h:=fun hg=>by first|exact ae|exact pc (pL _)|exact pc (eH _ _ _)|exact pc (AN p.shift)|exact ah)|apply sqW|refine rgK fun U V=>?_|(refine aN V ?_;clear V U)|refine aB ?_|refine cX ?_ ?_<;>intro hc<;>try simp only[dE] at hc|refine skW ?_|refine rtW ?_|refine kD fun U V=>?_|(refine aqN (V _ ?_);clear V U)|refine aqQ rfl rfl (fun hg=>by first|exact ae|exact pc (lJ p.low)|exact pc (lJ p.high)|exact pc (jA p.low)|exact pc (jA p.high)|exact ah) (by exact rfl) ?_)
 · refine⟨.inr rfl,Ent.b (Eq.symm ?_)⟩;unfold oU;rw[show sm p=true from hc];rfl
 · refine⟨.inr rfl,Ent.b (Eq.symm ?_)⟩;unfold oU;rw[show sm p=false from hc];rfl
theorem bT {α:Type} [Inhabited α] {l:List α} {k:Nat} (h:k<l.length):l.getD k default∈l:=by
 rw[show l.getD k default=l[k] by simp[List.getD,h]];exact lGm h
theorem mU (l:List Part) (fv:AV) (p:Part→Bool) (hp:∀x∈l,fw Tryz.prog fv [.agg (bt x)] (.b (p x))) (hl:l.length≤9223372036854775807) :
 PCall Tryz.prog 90 [.sl 13 (l.map bt) .no,fv] (.int (aX p l)):=by
 refine PCall.lG [1] Tryz.func90 rfl rfl Tryz.ntmps90 rfl rfl ?_
 repeat' (first|refine qT ?_|apply sqW|refine rgK fun U V=>?_|(refine aN V ?_;clear V U)|refine blK ?_)
 refine lpW (ι:=Nat) (fun k=>[(0,.sl 13 (l.map bt) .no),(1,.ext fv),(7,.int l.length),(8,.int k)]) (fun _=>[]) (fun k=>k≤l.length∧∀j,j<k→p (l.getD j default)=false) (fun k=>l.length - k) 0 ⟨nZl _,fun j h=>absurd h oM⟩ ⟨rfl,rfl,rfl,rfl,tI⟩ rfl ?_;rintro k ⟨hk,aT⟩;by_cases hlt:k<l.length
 · repeat' (first|refine qP ?_ (h:=fun hg=>by first|exact ae|exact PRun.r9 (hp _ (bT hlt)) rfl rfl nd rfl nds|exact ah)|apply sqW|refine rgK fun U V=>?_|(refine aN V ?_;clear V U)|refine cX ?_ ?_<;>intro hc<;>try simp only[dE] at hc|refine blK ?_|refine exW ?_|refine skW ?_|refine rtW ?_)
   · refine⟨.inr rfl,?_⟩;rw[show aX p l=k from eP hlt hc aT];exact fun _ _ h=>h
   · exact⟨k+1,⟨oM,fun j hj=>bA aT hc hj⟩,oM,⟨rfl,rfl,rfl,rfl,tI⟩,rfl⟩
   · exfalso;omega
 · repeat' (first|refine qT ?_|apply sqW|refine rgK fun U V=>?_|(refine aN V ?_;clear V U)|refine cX ?_ ?_<;>intro hc<;>try simp only[dE] at hc|refine blK ?_|refine exW ?_|refine skW ?_|refine rtW ?_)
   · exfalso;omega
   · refine⟨.inr rfl,?_⟩;rw[show aX p l = -1 from gq fun j hj=>aT j oM];exact fun _ _ h=>h
theorem zg (l:List ag) (fv:AV) (p:ag→Bool) (hp:∀x∈l,fw Tryz.prog fv [.agg (ar x)] (.b (p x))) (hl:l.length≤9223372036854775807) :
 PCall Tryz.prog 184 [.sl 12 (l.map ar) .no,fv] (.int (aX p l)):=by
 refine PCall.lG [1] Tryz.func184 rfl rfl Tryz.ntmps184 rfl rfl ?_
 repeat' (first|refine qT ?_|apply sqW|refine rgK fun U V=>?_|(refine aN V ?_;clear V U)|refine blK ?_)
 refine lpW (ι:=Nat) (fun k=>[(0,.sl 12 (l.map ar) .no),(1,.ext fv),(7,.int l.length),(8,.int k)]) (fun _=>[]) (fun k=>k≤l.length∧∀j,j<k→p (l.getD j default)=false) (fun k=>l.length - k) 0 ⟨nZl _,fun j h=>absurd h oM⟩ ⟨rfl,rfl,rfl,rfl,tI⟩ rfl ?_;rintro k ⟨hk,aT⟩;by_cases hlt:k<l.length
 · repeat' (first|refine qP ?_ (h:=fun hg=>by first|exact ae|exact PRun.r9 (hp _ (bT hlt)) rfl rfl nd rfl nds|exact ah)|apply sqW|refine rgK fun U V=>?_|(refine aN V ?_;clear V U)|refine cX ?_ ?_<;>intro hc<;>try simp only[dE] at hc|refine blK ?_|refine exW ?_|refine skW ?_|refine rtW ?_)
   · refine⟨.inr rfl,?_⟩;rw[show aX p l=k from eP hlt hc aT];exact fun _ _ h=>h
   · exact⟨k+1,⟨oM,fun j hj=>bA aT hc hj⟩,oM,⟨rfl,rfl,rfl,rfl,tI⟩,rfl⟩
   · exfalso;omega
 · repeat' (first|refine qT ?_|apply sqW|refine rgK fun U V=>?_|(refine aN V ?_;clear V U)|refine cX ?_ ?_<;>intro hc<;>try simp only[dE] at hc|refine blK ?_|refine exW ?_|refine skW ?_|refine rtW ?_)
   · exfalso;omega
   · refine⟨.inr rfl,?_⟩;rw[show aX p l = -1 from gq fun j hj=>aT j oM];exact fun _ _ h=>h
theorem xB (l:List Part) (fv:AV) (p:Part→Bool) (hp:∀x∈l,fw Tryz.prog fv [.agg (bt x)] (.b (p x))) (hl:l.length≤9223372036854775807) :
 PCall Tryz.prog 139 [.sl 13 (l.map bt) .no,fv] (.b (decide (aX p l≥0))):=by
 refine PCall.lG [1] Tryz.func139 rfl rfl Tryz.ntmps139 rfl rfl ?_
 repeat' (first|refine qP ?_ (h:=fun hg=>by first|exact ae|exact pc (mU l fv p hp hl)|exact ah)|apply sqW|refine rgK fun U V=>?_|(refine aN V ?_;clear V U)|refine rtW ?_)
 exact⟨.inr rfl,fun _ _ h=>h⟩
theorem qw (l:List ag) (fv:AV) (p:ag→Bool) (hp:∀x∈l,fw Tryz.prog fv [.agg (ar x)] (.b (p x))) (hl:l.length≤9223372036854775807) :
 PCall Tryz.prog 145 [.sl 12 (l.map ar) .no,fv] (.b (decide (aX p l≥0))):=by
 refine PCall.lG [1] Tryz.func145 rfl rfl Tryz.ntmps145 rfl rfl ?_
 repeat' (first|refine qP ?_ (h:=fun hg=>by first|exact ae|exact pc (zg l fv p hp hl)|exact ah)|apply sqW|refine rgK fun U V=>?_|(refine aN V ?_;clear V U)|refine rtW ?_)
 exact⟨.inr rfl,fun _ _ h=>h⟩
def jl (i:Int):Int×Bool:=(max i 0,decide (i≥0))
theorem uD (x:Part) (id:Int):PCall Tryz.prog 106 [.agg (bt x),.iptr [(.fn (.func 56) [] [])],.iptr [.int id]] (.b (x.id==id)):=by
 refine PCall.body Tryz.func106 rfl rfl Tryz.ntmps106 rfl rfl ?_
 repeat' (first|refine qS ?_|apply sqW|refine rgK fun U V=>?_|(refine aN V ?_;clear V U)|refine aB ?_|refine rtW ?_|refine kD fun U V=>?_|(refine aqN (V _ ?_);clear V U)|refine aqQ rfl rfl (fun hg=>by first|exact ae|exact pc (AM x)|exact ah) (by exact rfl) ?_)
 exact⟨.inr rfl,Ent.b rfl⟩
theorem oV (l:List Part) (id:Int) (hl:l.length≤9223372036854775807):PCall Tryz.prog 55 [.sl 13 (l.map bt) .no,.int id,(.fn (.func 56) [] [])]
 (.tup [.int (jl (aX (fun x:Part=>x.id==id) l)).1,.b (jl (aX (fun x:Part=>x.id==id) l)).2]):=by
 have hf:∀x:Part,fw Tryz.prog (.fn (.func 106) [] [.iptr [(.fn (.func 56) [] [])],.iptr [.int id]]) [.agg (bt x)] (.b (x.id==id)):=fun x=>⟨_,[],_,rfl,uD x id⟩
 have h:=mU l _ (fun x:Part=>x.id==id) (fun x _=>hf x) hl;refine PCall.body Tryz.func55 rfl rfl Tryz.ntmps55 rfl rfl ?_
 repeat' (first|refine qP ?_ (h:=fun hg=>by first|exact ae|exact pbW (h) rfl rfl nd rfl rfl nds|exact ah)|apply sqW|refine rgK fun U V=>?_|(refine aN V ?_;clear V U)|refine aB ?_|refine rtW ?_)
 exact⟨.inr rfl,Ent.t2 rfl rfl⟩
abbrev evP (p:Part):AV:=.agg (bt p)
def lost (al:List (Int×Part)) (p:Part):Bool:=p.of_ != 0&&(!(lk al p.of_).isSome||((lk al p.of_).getD default).of_ != 0)
theorem ER (al:List (Int×Part)) (x:Part):PCall Tryz.prog 138 [.agg (bt x),.iptr [.imap (aD ekI evP al)]] (.b (lost al x)):=by
 refine PCall.body Tryz.func138 rfl rfl Tryz.ntmps138 rfl rfl ?_
 repeat' (first|refine qP ?_ (h:=fun hg=>by first|exact ae|exact PRun.lookup (ek:=ekI) (ev:=evP) (zv:=(default:Part)) (ay (lkG rfl)) (lkG rfl) (lkG rfl) rfl rfl (Rd.w rfl nd) (Or.inl rfl) (Rd.w rfl nd) rfl|exact ah)|apply sqW|refine rgK fun U V=>?_|(refine aN V ?_;clear V U)|refine aB ?_|refine aS ?_|refine aA ?_|refine rtW ?_)
 exact⟨.inr rfl,Ent.b rfl⟩
def dT (l:List Part):List (Int×Part):=l.foldl (fun al p=>ins al p.id p) []
theorem zh (l:List Part) (k:Nat) (h:k<l.length):dT (l.take (k+1))=ins (dT (l.take k)) (l.getD k default).id (l.getD k default):=by
 have e:l.take (k+1)=l.take k++[l.getD k default]:=by
  rw[zCu,show l[k]? = some (l.getD k default) by simp[List.getD,h]];rfl
 rw[e];unfold dT;rw[zC6];rfl
def lf (l:List Part):Bool:=inB l.length 1 60&&l.all oU&&(((dT l).length:Int)==(l.length:Int)&&!decide (aX (lost (dT l)) l≥0))
theorem xC (l:List Part) (hl:l.length≤9223372036854775807):PCall Tryz.prog 83 [.sl 13 (l.map bt) .no] (.b (lf l)):=by
 have hf:∀x:Part,fw Tryz.prog (.fn (.func 138) [] [.iptr [.imap (aD ekI evP (dT l))]]) [.agg (bt x)] (.b (lost (dT l) x)):=fun x=>⟨_,[],_,rfl,ER (dT l) x⟩
 have h:=xB l _ (lost (dT l)) (fun x _=>hf x) hl;refine PCall.body Tryz.func83 rfl rfl Tryz.ntmps83 rfl rfl ?_
 repeat' (first|refine qP ?_ (h:=fun hg=>by first|exact ae|exact pc (eH _ _ _)|exact ah)|apply sqW|refine rgK fun U V=>?_|(refine aN V ?_;clear V U)|refine aS ?_|refine aA ?_|refine aoE (EStep.cz rfl rfl rfl rfl ?_)|refine cX ?_ ?_<;>intro hc<;>try simp only[dE] at hc|refine blK ?_|refine skW ?_|refine rtW ?_)
 · refine⟨.inr rfl,Ent.b (Eq.symm ?_)⟩;unfold lf;rw[show inB (l.length:Int) 1 60=false by simpa using hc];rfl
 have h0:inB (l.length:Int) 1 60=true:=by simpa using hc
 clear hc
 refine lpD (ι:=Nat) (fun k=>[(0,.sl 13 (l.map bt) .no),(3,.ptr 1 0),(12,.sl 13 (l.map bt) .no),(13,.int l.length),(14,.int k)]) (fun k=>[.map (aD ekI evP (dT (l.take k))),.var [.map 0]])
  (fun k=>k≤l.length∧∀j,j<k→oU (l.getD j default)=true) (fun k=>l.length - k) 2 (fun _=>rfl) 0 ⟨nZl _,fun j h=>absurd h oM⟩ ⟨rfl,rfl,rfl,rfl,rfl,tI⟩ rfl (fun _ _=>rfl) (fun k _=>by simp[ak,aD,aG,bt]) ?_
 rintro k ⟨hk,aT⟩;by_cases hlt:k<l.length
 · repeat' (first|refine qP ?_ (h:=fun hg=>by first|exact ae|exact pc (AP (l.getD k default))|exact ah)|apply sqW|refine rgK fun U V=>?_|(refine aN V ?_;clear V U)|refine aS ?_|refine aA ?_|refine aoE (EStep.dm (ek:=ekI) (ev:=evP) (v:=l.getD k default) (ay (lkG rfl)) (lkG rfl) rfl rfl rfl (Rd.w rfl tI) rfl (Rd.w rfl tI) rfl (Rd.w rfl tI) ?_)|refine cX ?_ ?_<;>intro hc<;>try simp only[dE] at hc|refine blK ?_|refine exW ?_|refine skW ?_|refine rtW ?_)
   · refine⟨.inr rfl,Ent.b (Eq.symm ?_)⟩;unfold lf;rw[h0,ug hlt (by simpa using hc)];rfl
   · refine⟨k+1,⟨oM,fun j hj=>bA aT (by simpa using hc) hj⟩,oM,⟨rfl,rfl,rfl,rfl,rfl,tI⟩,?_⟩;rw[zh l k hlt];rfl
   · exfalso;omega
 · have htk:l.take k=l:=zAn oM;have e:dT l=dT (l.take k):=by rw[htk]
   rw[e] at h;refine AWP.pA (ek:=ekI) (ev:=evP) (l:=0) (al:=dT (l.take k)) rfl (uf fun _=>rfl) ?_;refine AWP.dX [(0,.sl 13 (l.map bt) .no),(3,.ptr 1 0),(12,.sl 13 (l.map bt) .no),(13,.int l.length),(14,.int k)] ⟨rfl,rfl,rfl,rfl,rfl,tI⟩ ?_
   repeat' (first|refine qP ?_ (h:=fun hg=>by first|exact ae|exact pbW (h) rfl rfl nd rfl rfl nds|exact PRun.Lu (ek:=ekI) (ev:=evP) (al:=dT (l.take k)) rfl (Rd.w rfl nd) (Or.inl rfl) (lkG rfl)|exact ah)|apply sqW|refine rgK fun U V=>?_|(refine aN V ?_;clear V U)|refine aS ?_|refine aA ?_|refine cX ?_ ?_<;>intro hc<;>try simp only[dE] at hc|refine blK ?_|refine exW ?_|refine skW ?_|refine rtW ?_)
   · exfalso;omega
   all_goals (first|(exfalso;omega)|skip)
   refine⟨.inr rfl,Ent.b (Eq.symm ?_)⟩;unfold lf;rw[h0,oI fun j hj=>aT j oM,e];rfl
def pM (al:List (Int×Part)) (n:ag):Bool:=!(lk al n.part).isSome
def CR (al:List (Int×Part)) (n:ag):Bool:=!inB (eN n.pitch).1 (eN ((lk al n.part).getD default).low).1 (eN ((lk al n.part).getD default).high).1
theorem xD (al:List (Int×Part)) (x:ag):PCall Tryz.prog 142 [.agg (ar x),.iptr [.imap (aD ekI evP al)]] (.b (pM al x)):=by
 refine PCall.body Tryz.func142 rfl rfl Tryz.ntmps142 rfl rfl ?_
 repeat' (first|refine qP ?_ (h:=fun hg=>by first|exact ae|exact PRun.lookup (ek:=ekI) (ev:=evP) (zv:=(default:Part)) (ay (lkG rfl)) (lkG rfl) (lkG rfl) rfl rfl (Rd.w rfl nd) (Or.inl rfl) (Rd.w rfl nd) rfl|exact ah)|apply sqW|refine rgK fun U V=>?_|(refine aN V ?_;clear V U)|refine aB ?_|refine aS ?_|refine aA ?_|refine rtW ?_)
 exact⟨.inr rfl,Ent.b rfl⟩
theorem ES (al:List (Int×Part)) (x:ag):PCall Tryz.prog 143 [.agg (ar x),.iptr [.imap (aD ekI evP al)]] (.b (CR al x)):=by
 refine PCall.body Tryz.func143 rfl rfl Tryz.ntmps143 rfl rfl ?_
 repeat' (first|refine qP ?_ (h:=fun hg=>by first|exact ae|exact PRun.lookup (ek:=ekI) (ev:=evP) (zv:=(default:Part)) (ay (lkG rfl)) (lkG rfl) (lkG rfl) rfl rfl (Rd.w rfl nd) (Or.inl rfl) (Rd.w rfl nd) rfl|exact ah)|apply sqW|refine rgK fun U V=>?_|(refine aN V ?_;clear V U)|refine aB ?_|refine aS ?_|refine aA ?_|refine rtW ?_|refine kD fun U V=>?_|(refine aqN (V _ ?_);clear V U)|refine aqQ rfl rfl (fun hg=>by first|exact ae|exact pc (jA x.pitch)|exact pcW (jA ((lk al x.part).getD default).low) rfl rfl nd rfl nds|exact pcW (jA ((lk al x.part).getD default).high) rfl rfl nd rfl nds|exact pc (eH _ _ _)|exact ah) (by exact rfl) ?_)
 exact⟨.inr rfl,Ent.b rfl⟩
def fK (l:List Part):List (Int×Part):=dT (l.filter fun p=>p.of_==0)
theorem uE (l:List Part) (k:Nat) (h:k<l.length):fK (l.take (k+1))=if (l.getD k default).of_==0 then ins (fK (l.take k)) (l.getD k default).id (l.getD k default) else fK (l.take k):=by
 have e:l.take (k+1)=l.take k++[l.getD k default]:=by
  rw[zCu,show l[k]? = some (l.getD k default) by simp[List.getD,h]];rfl
 unfold fK;rw[e,zCj];by_cases h2:((l.getD k default).of_==0)=true
 · rw[if_pos h2,zBq (p:=fun p:Part=>p.of_==0) h2];unfold dT;rw[List.filter_nil,zC6];rfl
 · rw[if_neg h2,zBx (p:=fun p:Part=>p.of_==0) h2,List.filter_nil,zCc]
def oW (parts:List Part) (l:List ag):Int:=if aX (pM (fK parts)) l≥0 then 22 else if aX (CR (fK parts)) l≥0 then 20 else 0
theorem CS (parts:List Part) (l:List ag) (hp:parts.length≤9223372036854775807) (hl:l.length≤9223372036854775807):PCall Tryz.prog 85 [.sl 13 (parts.map bt) .no,.sl 12 (l.map ar) .no] (.int (oW parts l)):=by
 have hf1:∀x:ag,fw Tryz.prog (.fn (.func 142) [] [.iptr [.imap (aD ekI evP (fK parts))]]) [.agg (ar x)] (.b (pM (fK parts) x)):=fun x=>⟨_,[],_,rfl,xD (fK parts) x⟩
 have hf2:∀x:ag,fw Tryz.prog (.fn (.func 143) [] [.iptr [.imap (aD ekI evP (fK parts))]]) [.agg (ar x)] (.b (CR (fK parts) x)):=fun x=>⟨_,[],_,rfl,ES (fK parts) x⟩
 have h1:=qw l _ (pM (fK parts)) (fun x _=>hf1 x) hl;have h2:=qw l _ (CR (fK parts)) (fun x _=>hf2 x) hl;refine PCall.body Tryz.func85 rfl rfl Tryz.ntmps85 rfl rfl ?_
 repeat' (first|refine qT ?_|apply sqW|refine rgK fun U V=>?_|(refine aN V ?_;clear V U)|refine aS ?_|refine aA ?_|refine aoE (EStep.cz rfl rfl rfl rfl ?_)|refine blK ?_)
 refine lpD (ι:=Nat) (fun k=>[(1,.sl 12 (l.map ar) .no),(5,.ptr 1 0),(11,.sl 13 (parts.map bt) .no),(12,.int parts.length),(13,.int k)]) (fun k=>[.map (aD ekI evP (fK (parts.take k))),.var [.map 0]])
  (fun k=>k≤parts.length) (fun k=>parts.length - k) 2 (fun _=>rfl) 0 (nZl _) ⟨rfl,rfl,rfl,rfl,rfl,tI⟩ rfl (fun _ _=>rfl) (fun k _=>by simp[ak,aD,aG,bt]) ?_
 intro k hk;by_cases hlt:k<parts.length
 · repeat' (first|refine qT ?_|apply sqW|refine rgK fun U V=>?_|(refine aN V ?_;clear V U)|refine aS ?_|refine aA ?_|refine aoE (EStep.dm (ek:=ekI) (ev:=evP) (v:=parts.getD k default) (ay (lkG rfl)) (lkG rfl) rfl rfl rfl (Rd.w rfl tI) rfl (Rd.w rfl tI) rfl (Rd.w rfl tI) ?_)|refine cX ?_ ?_<;>intro hc<;>try simp only[dE] at hc|refine blK ?_|refine exW ?_|refine skW ?_)
   · refine⟨k+1,oM,oM,⟨rfl,rfl,rfl,rfl,rfl,tI⟩,?_⟩;rw[uE parts k hlt,if_pos (by simpa using hc)];rfl
   · refine⟨k+1,oM,oM,⟨rfl,rfl,rfl,rfl,rfl,tI⟩,?_⟩;rw[uE parts k hlt,if_neg (by simpa using hc)];rfl
   · exfalso;omega
 · have htk:parts.take k=parts:=zAn oM;have e:fK parts=fK (parts.take k):=by rw[htk]
   rw[e] at h1 h2;refine AWP.pA (ek:=ekI) (ev:=evP) (l:=0) (al:=fK (parts.take k)) rfl (uf fun _=>rfl) ?_;refine AWP.dX [(1,.sl 12 (l.map ar) .no),(5,.ptr 1 0),(11,.sl 13 (parts.map bt) .no),(12,.int parts.length),(13,.int k)] ⟨rfl,rfl,rfl,rfl,rfl,tI⟩ ?_
   repeat' (first|refine qP ?_ (h:=fun hg=>by first|exact ae|exact pbW (h1) rfl rfl nd rfl rfl nds|exact pbW (h2) rfl rfl nd rfl rfl nds|exact ah)|apply sqW|refine rgK fun U V=>?_|(refine aN V ?_;clear V U)|refine aS ?_|refine aA ?_|refine cX ?_ ?_<;>intro hc<;>try simp only[dE] at hc|refine blK ?_|refine exW ?_|refine skW ?_|refine rtW ?_)
   all_goals (first|(exfalso;omega)|skip)
   · refine⟨.inr rfl,Ent.int (Eq.symm ?_)⟩;unfold oW;rw[e,if_pos (by simpa using hc)]
   · rename_i hc0;refine⟨.inr rfl,Ent.int (Eq.symm ?_)⟩;unfold oW;rw[e,if_neg (by simpa using hc0),if_pos (by simpa using hc)]
   · rename_i hc0;refine⟨.inr rfl,Ent.int (Eq.symm ?_)⟩;unfold oW;rw[e,if_neg (by simpa using hc0),if_neg (by simpa using hc)]
structure Score where
 version:Int
 bars:List Bar
 parts:List Part
 notes:List ag
 deriving DecidableEq,Inhabited
def encS (s:Score):List AV:=[.int s.version,.sl 4 (s.bars.map bD) .no,.sl 13 (s.parts.map bt) .no,.sl 12 (s.notes.map ar) .no]
def Score.Small (s:Score):Prop:=s.bars.length≤1000000000∧s.parts.length≤1000000000∧s.notes.length≤1000000000
def lg (s:Score):Bool:=!inB s.version 1 1000000||!fE s.bars||!lf s.parts||!du s.bars s.notes||oW s.parts s.notes != 0
def aQ (s:Score):Bool:=!lg s&&((kI s.bars s.notes).2==0&&(kI s.bars s.notes).1==s.notes)
theorem ET (bars:List Bar) (l:List ag):(kI bars l).1.length≤l.length:=by
 unfold kI;split
 · simp[nM]
 · simp
theorem dy (s:Score) (hs:s.Small):PCall Tryz.prog 39 [.agg (encS s)] (.b (aQ s)):=by
 obtain⟨h1,h2,h3⟩:=hs;have v1:=cH s.bars oM;have v2:=xC s.parts oM;have v3:=sR s.bars s.notes oM oM;have v4:=CS s.parts s.notes oM oM;have v5:=EP s.bars s.notes h1 h3;have hq:=ET s.bars s.notes;have v6:=sS (kI s.bars s.notes).1 s.notes oM oM;refine PCall.body Tryz.func39 rfl rfl Tryz.ntmps39 rfl rfl ?_
 repeat' (first|refine qP ?_ (h:=fun hg=>by first|exact ae|exact pc (pL _)|exact pc v1|exact pc v2|exact pc v3|exact pc v4|exact pc v5|exact pc v6|exact ah)|apply sqW|refine rgK fun U V=>?_|(refine aN V ?_;clear V U)|refine aB ?_|refine cX ?_ ?_<;>intro hc<;>try simp only[dE] at hc|refine skW ?_|refine rtW ?_)
 · refine⟨.inr rfl,Ent.b (Eq.symm ?_)⟩;unfold aQ;rw[show lg s=true from hc];rfl
 · refine⟨.inr rfl,Ent.b (Eq.symm ?_)⟩;unfold aQ;rw[show lg s=false from hc];rfl
end Go.Proofs.YtmjdoencpjpegaaGreatDoor
namespace Go.Proofs.YtmjdoencpjpegaaGreatDoor
open Go.Ab Go.Sort
theorem qx {bars:List Bar} {l:List ag} (h:du bars l=true):(l.map (·.id)).Nodup:=by
 unfold du at h;simp only[zA0,dEt] at h;exact h.2
end Go.Proofs.YtmjdoencpjpegaaGreatDoor
namespace Go.Ab
theorem EStep.gd {P:Program} {n:Nat} {ops:Array Oper} {o:Oper} {k:Env→aa→Prop} {env:Env} {σ:aa} {g:GG} (hg:gOf ops env o=some g) (hh:g.holds) (h:EStep P n ops { o with guard:=none } k env σ):EStep P n ops o k env σ:=by
 intro G a w hr;have h':=h G a w hr;rw[if_pos (by simp[Region.wanted])] at h';have hw:Region.wanted o (yielded ops a.tmps)=true:=by
  unfold gOf at hg;split at hg
  · rename_i hgd;simp[Region.wanted,hgd]
  · rename_i j want hgd;split at hg
    · rename_i d hd;have hz:=hr.bf d;have key:∀t,(t==want)=true→a.tmps.getD d undef=.bool t→Region.wanted o (yielded ops a.tmps)=true:=fun t ht h1=>by
       have h2:a.tmps[d]? = some (.bool t):=by
        cases h:a.tmps[d]? with
        |none=>simp[h,undef] at h1
        |some y=>simp[h] at h1;rw[h1]
       simp only[Region.wanted,hgd,yielded,hd,Option.bind_some,h2];cases t<;>cases want<;>first|rfl|cases ht
      split at hg
      · rename_i t he;simp at hg;subst hg;rw[he] at hz;exact key t hh (af.aP hz)
      · rename_i g' t he;simp at hg;subst hg;have hh':g'=true∧(t==want)=true:=by simpa using hh
        rw[he] at hz;cases hz with
        |when _ _ _ h0 h1=>exact key t hh'.2 (af.aP (h0 hh'.1))
      · simp at hg
    · simp at hg
 rw[if_pos hw];exact h'
end Go.Ab
namespace Go.Proofs.YtmjdoencpjpegaaGreatDoor
open Go.Ab
attribute [local irreducible] AWP AOps EStep AQ PStep PRun PCall TCall VCall
def uF (s:Score) (id:Int):Bool:=aQ s&&inB id 1 1000000
theorem CT (s:Score) (hs:s.Small) (id:Int):PCall Tryz.prog 147 [.agg (encS s),.int id] (.b (uF s id)):=by
 refine PCall.body Tryz.func147 rfl rfl Tryz.ntmps147 rfl rfl ?_
 repeat' (first|refine qP ?_ (h:=fun hg=>by first|exact ae|exact pc (dy s hs)|exact pc (pL _)|exact ah)|apply sqW|refine rgK fun U V=>?_|(refine aN V ?_;clear V U)|refine aB ?_|refine rtW ?_)
 exact⟨.inr rfl,Ent.b rfl⟩
def idR (ok:Bool) (i:Int):Int×Bool×Int:=if ok then ((jl i).1,(jl i).2,0) else (0,false,1)
def at3 (r:Int×Bool×Int):AV:=.tup [.int r.1,.b r.2.1,.int r.2.2]
def nO (s:Score) (id:Int):Int×Bool×Int:=idR (uF s id) (aX (fun x:Part=>x.id==id) s.parts)
theorem CU (s:Score) (hs:s.Small) (id:Int):PCall Tryz.prog 95 [.agg (encS s),.int id] (at3 (nO s id)):=by
 have ha:=CT s hs id;obtain⟨h1,h2,h3⟩:=hs;refine PCall.body Tryz.func95 rfl rfl Tryz.ntmps95 rfl rfl ?_
 repeat' (first|refine qP ?_ (h:=fun hg=>by first|exact ae|exact pc ha|exact pc (oV s.parts id oM)|exact ah)|apply sqW|refine rgK fun U V=>?_|(refine aN V ?_;clear V U)|refine aB ?_|refine cX ?_ ?_<;>intro hc<;>try simp only[dE] at hc|refine skW ?_|refine rtW ?_)
 · refine⟨.inr rfl,Ent.of ?_⟩;rw[show nO s id=(0,false,1) from by unfold nO idR;rw[if_neg (by simpa using hc)]];rfl
 · refine⟨.inr rfl,Ent.of ?_⟩;unfold nO idR;rw[if_pos (by simpa using hc)];rfl
end Go.Proofs.YtmjdoencpjpegaaGreatDoor
namespace Go.Ab
theorem Ent.agg {us vs:List AV} (hl:us.length=vs.length) (h:∀(i:Nat) (u v:AV),us[i]? = some u→vs[i]? = some v→Ent u v):Ent (.agg us) (.agg vs):=fun M x hx=>by
 cases hx with
 | agg _ xs h1 h2 =>
   refine .agg vs xs (by rw[h1,hl]) fun i c hi=>?_
   have hlt:i<us.length:=by
    rw[hl];rcases nLg i vs.length with h|h
    · exact h
    · simp[zA2 h] at hi
   exact h i us[i] c (zA1 hlt) hi M _ (h2 i _ (zA1 hlt))
end Go.Ab
namespace Go.Proofs.YtmjdoencpjpegaaGreatDoor
open Go.Ab
attribute [local irreducible] AWP AOps EStep AQ PStep PRun PCall TCall VCall
theorem mo {es:List (List AV)} (h:∀e∈es,e.all sg=true):∀e∈es,∀a∈e,∀M B x,af M B a x→af M [] a x:=fun e he a ha _ _ _ hx=>wN (zA6.1 (h e he) a ha) hx
end Go.Proofs.YtmjdoencpjpegaaGreatDoor
