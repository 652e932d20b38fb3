/- Parts of the proof. No statement is proved here. -/
import Derived.Test.YthiaimakjmhegaaGreatDoorP19
set_option linter.unusedVariables false
set_option linter.unusedSimpArgs false
set_option maxHeartbeats 16000000
set_option maxRecDepth 20000
namespace Go.Proofs.YthiaimakjmhegaaGreatDoor.Pl
open Go.Ab Go.Pl
attribute [local irreducible] AWP AOps EStep AQ PStep PRun PCall TCall VCall
theorem Cd (l:List Int) (b:Int):l.map (fun n=>[AV.int n])++[[AV.int b]]=(l++[b]).map fun n=>[AV.int n]:=by rw[zBw];rfl
theorem tF (f:aG) (hf:FIn f) (hB:FOk f) (a u:Int) (again:Bool) (ha:0≤a∧a≤4000) (hu:u≤4000) :
 PCall Tryz.prog 179 [.agg (aP f),.int a,.int u,.b again] (.sl 1 ((bu f a u (!again)).map fun n=>[AV.int n]) .no):=by
 have hr1:∀r∈f.ar,r.from_<r.ak:=fun r hr=>(hB.ar r hr).2.1
 have hb:=hB.bars;have hlen:(bu f a u (!again)).length≤36000:=by
  have:=Go.Pl.jz (f:=f) (M:=4000) (fun r h=>by have:=hB.ar r h;omega) (fun r h=>by have:=hB.ar r h;omega) u hu (!again) (u - a).toNat a;unfold bu;omega
 obtain⟨P,hP⟩:∃P,bu f a u (!again)=P:=⟨_,rfl⟩
 have hlP:P.length≤36000:=hP▸hlen;refine PCall.body Tryz.func179 rfl rfl Tryz.ntmps179 rfl rfl ?_
 repeat' (first|refine qS ?_|apply sqW|refine rgK fun U V=>?_|(refine aN V ?_;clear V U)|refine aB ?_|refine blK ?_)
 refine AWP.iQ (d:=9) (sz:=1) rfl ?_
 refine lpD (ι:=List Int×Int) (fun q=>[(2,.int u),(3,.b again),(4,.ptr 0 0),(9,.sl 1 (q.1.map fun n=>[AV.int n]) (.own 1)),(10,.int q.2)]) (fun q=>[.var (aP f),.own 1 (q.1.map fun n=>[AV.int n]).length])
  (fun q=>q.1.length≤36000∧(0≤q.2∧q.2≤4000)∧P=q.1++bu f q.2 u (!again)) (fun q=>(u - q.2).toNat) 2 (fun _=>rfl) ([],a) ⟨nZl _,ha,hP.symm⟩ ⟨rfl,rfl,rfl,rfl,rfl,tI⟩ rfl (fun _ _=>rfl) (fun _ _=>rfl) ?_
 rintro⟨out,bar⟩ ⟨hol,dv,hinv⟩;dsimp only at hol dv hinv ⊢;by_cases hlt:bar<u
 · have hix:=p7 f bar hf;cases hs:dW f.ar bar with
   | none =>
     rw[qc hs] at hix;rw[rW hr1 hlt (!again) hs] at hinv;have hl2:(out++[bar]).length≤36000:=by
      have h:=congrArg List.length hinv;rw[lLa,zAd] at h;rw[lLa,zBb];omega
     repeat' (first|refine qP ?_ (h:=fun hg=>by first|exact aa|exact pc hix|exact pbS ab rfl rfl nds|exact af)|apply sqW|refine rgK fun U V=>?_|(refine aN V ?_;clear V U)|refine aS ?_|refine aA ?_|refine aoE (EStep.dH ab rfl rfl rfl dCd (Rd.w rfl tI) rfl (Rd.w rfl tI) (.sl rfl (by first|(intro x hx;rcases zA9.1 hx with rfl;rfl)|exact one_by8 _|exact dV _)) (lkG rfl) (lkG rfl) rfl rfl (by simp only[lLm,lLa,zAd,zAm];omega) (by simp only[lLm,lLa,zAd,zAm];omega) ?_)|refine cX ?_ ?_<;>intro hc<;>try simp only[dE] at hc|refine blK ?_|refine exW ?_|refine skW ?_|refine rtW ?_)
     all_goals (first|(exfalso;omega)|skip)
     refine⟨(out++[bar],bar+1),⟨hl2,⟨by dsimp only;omega,by dsimp only;omega⟩,by dsimp only;rw[hinv,zBo];rfl⟩,by dsimp only;omega,⟨rfl,rfl,rfl,congrArg (fun l=>AV.sl 1 l (.own 1)) (Cd _ _),rfl,tI⟩,?_⟩;dsimp only;rw[show((out++[bar]).map fun n=>[AV.int n]).length=(out.map fun n=>[AV.int n]).length+1 by simp];rfl
   | some r =>
     obtain⟨k,hk,hkr,hfi,hfr⟩:=qd hs;rw[hfi] at hix;rw[rX hr1 hlt (!again) hs] at hinv;have hrb:=hB.ar r (zBi hs);have hkl:=hf.ar
     repeat' (first|refine qP ?_ (h:=fun hg=>by first|exact iX ba f.ar ((k:Nat):Int) hkr (hb:=oM)|exact aa|exact pc hix|exact af)|apply sqW|refine rgK fun U V=>?_|(refine aN V ?_;clear V U)|refine aS ?_|refine aA ?_|refine cX ?_ ?_<;>intro hc<;>try simp only[dE] at hc|refine blK ?_|refine exW ?_|refine skW ?_|refine rtW ?_)
     all_goals (first|(exfalso;omega)|skip)
     all_goals
      refine lpD (ι:=List Int×Int) (fun q=>[(2,.int u),(3,.b again),(4,.ptr 0 0),(9,.sl 1 (q.1.map fun n=>[AV.int n]) (.own 1)),(12,.ptr 2 0),(14,.int q.2)]) (fun q=>[.var (aP f),.own 1 (q.1.map fun n=>[AV.int n]).length,.var (ba r)])
       (fun q=>q.1.length≤36000∧(1≤q.2∧q.2≤r.times+1)∧P=q.1++((gg q.2 (r.times+1)).flatMap (jL f r)++bu f r.ak u (!again))) (fun q=>(r.times+1 - q.2).toNat) 3 (fun _=>rfl) (out,if !again then 1 else r.times) ⟨hol,by dsimp only;split<;>omega,hinv⟩ ⟨rfl,rfl,rfl,rfl,rfl,by rw[hc];rfl,tI⟩ rfl (fun _ _=>rfl) (fun _ _=>rfl) ?_
      rintro⟨yC,pass⟩ ⟨sx,hps,hd1⟩;dsimp only at sx hps hd1 ⊢;by_cases hlp:pass≤r.times
      · rw[jw oM,List.flatMap_cons,zBo] at hd1
        repeat' (first|refine qS ?_|apply sqW|refine rgK fun U V=>?_|(refine aN V ?_;clear V U)|refine cX ?_ ?_<;>intro hc<;>try simp only[dE] at hc|refine blK ?_|refine exW ?_|refine skW ?_)
        all_goals (first|(exfalso;omega)|skip)
        refine lpD (ι:=List Int×Int) (fun q=>[(2,.int u),(3,.b again),(4,.ptr 0 0),(9,.sl 1 (q.1.map fun n=>[AV.int n]) (.own 1)),(12,.ptr 2 0),(14,.int pass),(15,.int q.2)]) (fun q=>[.var (aP f),.own 1 (q.1.map fun n=>[AV.int n]).length,.var (ba r)])
         (fun q=>q.1.length≤36000∧(r.from_≤q.2∧q.2≤r.ak)∧P=q.1++((gg q.2 r.ak).filter (fun i=>gb f.ends i pass)++((gg (pass+1) (r.times+1)).flatMap (jL f r)++bu f r.ak u (!again)))) (fun q=>(r.ak - q.2).toNat) 3 (fun _=>rfl) (yC,r.from_) ⟨sx,⟨zBy _,by dsimp only;omega⟩,hd1⟩ ⟨rfl,rfl,rfl,rfl,rfl,rfl,rfl,tI⟩ rfl (fun _ _=>rfl) (fun _ _=>rfl) ?_
        rintro⟨km,i⟩ ⟨sy,hi,hd2⟩;dsimp only at sy hi hd2 ⊢;by_cases hli:i<r.ak
        · rw[jw hli] at hd2;have hen:=p8 f i pass hf;cases hpl:gb f.ends i pass with
          | false =>
            rw[zCz (by rw[hpl];decide)] at hd2;rw[hpl] at hen
            repeat' (first|refine qP ?_ (h:=fun hg=>by first|exact aa|exact pc hen|exact pbS ab rfl rfl nds|exact af)|apply sqW|refine rgK fun U V=>?_|(refine aN V ?_;clear V U)|refine aoE (EStep.dH ab rfl rfl rfl dCd (Rd.w rfl tI) rfl (Rd.w rfl tI) (.sl rfl (by first|(intro x hx;rcases zA9.1 hx with rfl;rfl)|exact one_by8 _|exact dV _)) (lkG rfl) (lkG rfl) rfl rfl (by simp only[lLm,lLa,zAd,zAm];omega) (by simp only[lLm,lLa,zAd,zAm];omega) ?_)|refine cX ?_ ?_<;>intro hc<;>try simp only[dE] at hc|refine blK ?_|refine exW ?_|refine skW ?_)
            all_goals (first|(exfalso;omega)|skip)
            all_goals first|exact⟨(km,i+1),⟨sy,⟨by dsimp only;omega,by dsimp only;omega⟩,hd2⟩,by dsimp only;omega,⟨rfl,rfl,rfl,rfl,rfl,rfl,rfl,tI⟩,rfl⟩|(exfalso;cases hc;done)|(exfalso;simp at hc;done)
          | true =>
            rw[zCy (by exact hpl),zDe] at hd2;rw[hpl] at hen;have hl2:(km++[i]).length≤36000:=by
             have h:=congrArg List.length hd2;rw[lLa,zAd] at h;rw[lLa,zBb];omega
            repeat' (first|refine qP ?_ (h:=fun hg=>by first|exact aa|exact pc hen|exact pbS ab rfl rfl nds|exact af)|apply sqW|refine rgK fun U V=>?_|(refine aN V ?_;clear V U)|refine aoE (EStep.dH ab rfl rfl rfl dCd (Rd.w rfl tI) rfl (Rd.w rfl tI) (.sl rfl (by first|(intro x hx;rcases zA9.1 hx with rfl;rfl)|exact one_by8 _|exact dV _)) (lkG rfl) (lkG rfl) rfl rfl (by simp only[lLm,lLa,zAd,zAm];omega) (by simp only[lLm,lLa,zAd,zAm];omega) ?_)|refine cX ?_ ?_<;>intro hc<;>try simp only[dE] at hc|refine blK ?_|refine exW ?_|refine skW ?_)
            all_goals (first|(exfalso;omega)|(exfalso;cases hc;done)|(exfalso;simp at hc;done)|skip)
            refine⟨(km++[i],i+1),⟨hl2,⟨by dsimp only;omega,by dsimp only;omega⟩,by dsimp only;rw[hd2,zBo];rfl⟩,by dsimp only;omega,⟨rfl,rfl,rfl,congrArg (fun l=>AV.sl 1 l (.own 1)) (Cd _ _),rfl,rfl,rfl,tI⟩,?_⟩;dsimp only;rw[show((km++[i]).map fun n=>[AV.int n]).length=(km.map fun n=>[AV.int n]).length+1 by simp];rfl
        · rw[ka oM] at hd2
          repeat' (first|refine qS ?_|apply sqW|refine rgK fun U V=>?_|(refine aN V ?_;clear V U)|refine cX ?_ ?_<;>intro hc<;>try simp only[dE] at hc|refine blK ?_|refine exW ?_|refine skW ?_)
          all_goals (first|(exfalso;omega)|skip)
          exact⟨(km,pass+1),⟨sy,⟨by dsimp only;omega,by dsimp only;omega⟩,hd2⟩,by dsimp only;omega,⟨rfl,rfl,rfl,rfl,rfl,rfl,tI⟩,rfl⟩
      · rw[ka oM] at hd1
        repeat' (first|refine qS ?_|apply sqW|refine rgK fun U V=>?_|(refine aN V ?_;clear V U)|refine cX ?_ ?_<;>intro hc<;>try simp only[dE] at hc|refine blK ?_|refine exW ?_|refine skW ?_)
        all_goals (first|(exfalso;omega)|skip)
        exact⟨(yC,r.ak),⟨sx,⟨by dsimp only;omega,by dsimp only;omega⟩,hd1⟩,by dsimp only;omega,⟨rfl,rfl,rfl,rfl,rfl,tI⟩,rfl⟩
 · rw[oy oM,zCm] at hinv
   repeat' (first|refine qS ?_|apply sqW|refine rgK fun U V=>?_|(refine aN V ?_;clear V U)|refine cX ?_ ?_<;>intro hc<;>try simp only[dE] at hc|refine blK ?_|refine exW ?_|refine skW ?_|refine rtW ?_)
   all_goals (first|(exfalso;omega)|skip)
   refine⟨.inr rfl,Ent.of ?_⟩;rw[hP,hinv];rfl
theorem Jg (f:aG) (hf:FIn f) (hB:FOk f) (a u:Int) (again:Bool) (ha:0≤a∧a≤4000) (hu:u≤4000) :
 TCall Tryz.prog 179 [.agg (aP f),.int a,.int u,.b again] [.var (aP f)] (fun r s=>r=.sl 1 ((bu f a u (!again)).map fun n=>[AV.int n]) (.own 2)∧s=[.var (aP f),.var (aP f),.own 1 ((bu f a u (!again)).map fun n=>[AV.int n]).length]):=by
 have hr1:∀r∈f.ar,r.from_<r.ak:=fun r hr=>(hB.ar r hr).2.1
 have hb:=hB.bars;have hlen:(bu f a u (!again)).length≤36000:=by
  have:=Go.Pl.jz (f:=f) (M:=4000) (fun r h=>by have:=hB.ar r h;omega) (fun r h=>by have:=hB.ar r h;omega) u hu (!again) (u - a).toNat a;unfold bu;omega
 obtain⟨P,hP⟩:∃P,bu f a u (!again)=P:=⟨_,rfl⟩
 have hlP:P.length≤36000:=hP▸hlen;refine TCall.body Tryz.func179 rfl rfl Tryz.ntmps179 rfl rfl ?_
 repeat' (first|refine qS ?_|apply sqW|refine rgK fun U V=>?_|(refine aN V ?_;clear V U)|refine aB ?_|refine blK ?_)
 refine AWP.iQ (d:=9) (sz:=1) rfl ?_
 refine lpD (ι:=List Int×Int) (fun q=>[(2,.int u),(3,.b again),(4,.ptr 1 0),(9,.sl 1 (q.1.map fun n=>[AV.int n]) (.own 2)),(10,.int q.2)]) (fun q=>[.var (aP f),.var (aP f),.own 1 (q.1.map fun n=>[AV.int n]).length])
  (fun q=>q.1.length≤36000∧(0≤q.2∧q.2≤4000)∧P=q.1++bu f q.2 u (!again)) (fun q=>(u - q.2).toNat) 3 (fun _=>rfl) ([],a) ⟨nZl _,ha,hP.symm⟩ ⟨rfl,rfl,rfl,rfl,rfl,tI⟩ rfl (fun _ _=>rfl) (fun _ _=>rfl) ?_
 rintro⟨out,bar⟩ ⟨hol,dv,hinv⟩;dsimp only at hol dv hinv ⊢;by_cases hlt:bar<u
 · have hix:=p7 f bar hf;cases hs:dW f.ar bar with
   | none =>
     rw[qc hs] at hix;rw[rW hr1 hlt (!again) hs] at hinv;have hl2:(out++[bar]).length≤36000:=by
      have h:=congrArg List.length hinv;rw[lLa,zAd] at h;rw[lLa,zBb];omega
     repeat' (first|refine qP ?_ (h:=fun hg=>by first|exact aa|exact pc hix|exact pbS ab rfl rfl nds|exact af)|apply sqW|refine rgK fun U V=>?_|(refine aN V ?_;clear V U)|refine aS ?_|refine aA ?_|refine aoE (EStep.dH ab rfl rfl rfl dCd (Rd.w rfl tI) rfl (Rd.w rfl tI) (.sl rfl (by first|(intro x hx;rcases zA9.1 hx with rfl;rfl)|exact one_by8 _|exact dV _)) (lkG rfl) (lkG rfl) rfl rfl (by simp only[lLm,lLa,zAd,zAm];omega) (by simp only[lLm,lLa,zAd,zAm];omega) ?_)|refine cX ?_ ?_<;>intro hc<;>try simp only[dE] at hc|refine blK ?_|refine exW ?_|refine skW ?_|refine rtW ?_)
     all_goals (first|(exfalso;omega)|skip)
     refine⟨(out++[bar],bar+1),⟨hl2,⟨by dsimp only;omega,by dsimp only;omega⟩,by dsimp only;rw[hinv,zBo];rfl⟩,by dsimp only;omega,⟨rfl,rfl,rfl,congrArg (fun l=>AV.sl 1 l (.own 2)) (Cd _ _),rfl,tI⟩,?_⟩;dsimp only;rw[show((out++[bar]).map fun n=>[AV.int n]).length=(out.map fun n=>[AV.int n]).length+1 by simp];rfl
   | some r =>
     obtain⟨k,hk,hkr,hfi,hfr⟩:=qd hs;rw[hfi] at hix;rw[rX hr1 hlt (!again) hs] at hinv;have hrb:=hB.ar r (zBi hs);have hkl:=hf.ar
     repeat' (first|refine qP ?_ (h:=fun hg=>by first|exact iX ba f.ar ((k:Nat):Int) hkr (hb:=oM)|exact aa|exact pc hix|exact af)|apply sqW|refine rgK fun U V=>?_|(refine aN V ?_;clear V U)|refine aS ?_|refine aA ?_|refine cX ?_ ?_<;>intro hc<;>try simp only[dE] at hc|refine blK ?_|refine exW ?_|refine skW ?_|refine rtW ?_)
     all_goals (first|(exfalso;omega)|skip)
     all_goals
      refine lpD (ι:=List Int×Int) (fun q=>[(2,.int u),(3,.b again),(4,.ptr 1 0),(9,.sl 1 (q.1.map fun n=>[AV.int n]) (.own 2)),(12,.ptr 3 0),(14,.int q.2)]) (fun q=>[.var (aP f),.var (aP f),.own 1 (q.1.map fun n=>[AV.int n]).length,.var (ba r)])
       (fun q=>q.1.length≤36000∧(1≤q.2∧q.2≤r.times+1)∧P=q.1++((gg q.2 (r.times+1)).flatMap (jL f r)++bu f r.ak u (!again))) (fun q=>(r.times+1 - q.2).toNat) 4 (fun _=>rfl) (out,if !again then 1 else r.times) ⟨hol,by dsimp only;split<;>omega,hinv⟩ ⟨rfl,rfl,rfl,rfl,rfl,by rw[hc];rfl,tI⟩ rfl (fun _ _=>rfl) (fun _ _=>rfl) ?_
      rintro⟨yC,pass⟩ ⟨sx,hps,hd1⟩;dsimp only at sx hps hd1 ⊢;by_cases hlp:pass≤r.times
      · rw[jw oM,List.flatMap_cons,zBo] at hd1
        repeat' (first|refine qS ?_|apply sqW|refine rgK fun U V=>?_|(refine aN V ?_;clear V U)|refine cX ?_ ?_<;>intro hc<;>try simp only[dE] at hc|refine blK ?_|refine exW ?_|refine skW ?_)
        all_goals (first|(exfalso;omega)|skip)
        refine lpD (ι:=List Int×Int) (fun q=>[(2,.int u),(3,.b again),(4,.ptr 1 0),(9,.sl 1 (q.1.map fun n=>[AV.int n]) (.own 2)),(12,.ptr 3 0),(14,.int pass),(15,.int q.2)]) (fun q=>[.var (aP f),.var (aP f),.own 1 (q.1.map fun n=>[AV.int n]).length,.var (ba r)])
         (fun q=>q.1.length≤36000∧(r.from_≤q.2∧q.2≤r.ak)∧P=q.1++((gg q.2 r.ak).filter (fun i=>gb f.ends i pass)++((gg (pass+1) (r.times+1)).flatMap (jL f r)++bu f r.ak u (!again)))) (fun q=>(r.ak - q.2).toNat) 4 (fun _=>rfl) (yC,r.from_) ⟨sx,⟨zBy _,by dsimp only;omega⟩,hd1⟩ ⟨rfl,rfl,rfl,rfl,rfl,rfl,rfl,tI⟩ rfl (fun _ _=>rfl) (fun _ _=>rfl) ?_
        rintro⟨km,i⟩ ⟨sy,hi,hd2⟩;dsimp only at sy hi hd2 ⊢;by_cases hli:i<r.ak
        · rw[jw hli] at hd2;have hen:=p8 f i pass hf;cases hpl:gb f.ends i pass with
          | false =>
            rw[zCz (by rw[hpl];decide)] at hd2;rw[hpl] at hen
            repeat' (first|refine qP ?_ (h:=fun hg=>by first|exact aa|exact pc hen|exact pbS ab rfl rfl nds|exact af)|apply sqW|refine rgK fun U V=>?_|(refine aN V ?_;clear V U)|refine aoE (EStep.dH ab rfl rfl rfl dCd (Rd.w rfl tI) rfl (Rd.w rfl tI) (.sl rfl (by first|(intro x hx;rcases zA9.1 hx with rfl;rfl)|exact one_by8 _|exact dV _)) (lkG rfl) (lkG rfl) rfl rfl (by simp only[lLm,lLa,zAd,zAm];omega) (by simp only[lLm,lLa,zAd,zAm];omega) ?_)|refine cX ?_ ?_<;>intro hc<;>try simp only[dE] at hc|refine blK ?_|refine exW ?_|refine skW ?_)
            all_goals (first|(exfalso;omega)|skip)
            all_goals first|exact⟨(km,i+1),⟨sy,⟨by dsimp only;omega,by dsimp only;omega⟩,hd2⟩,by dsimp only;omega,⟨rfl,rfl,rfl,rfl,rfl,rfl,rfl,tI⟩,rfl⟩|(exfalso;cases hc;done)|(exfalso;simp at hc;done)
          | true =>
            rw[zCy (by exact hpl),zDe] at hd2;rw[hpl] at hen;have hl2:(km++[i]).length≤36000:=by
             have h:=congrArg List.length hd2;rw[lLa,zAd] at h;rw[lLa,zBb];omega
            repeat' (first|refine qP ?_ (h:=fun hg=>by first|exact aa|exact pc hen|exact pbS ab rfl rfl nds|exact af)|apply sqW|refine rgK fun U V=>?_|(refine aN V ?_;clear V U)|refine aoE (EStep.dH ab rfl rfl rfl dCd (Rd.w rfl tI) rfl (Rd.w rfl tI) (.sl rfl (by first|(intro x hx;rcases zA9.1 hx with rfl;rfl)|exact one_by8 _|exact dV _)) (lkG rfl) (lkG rfl) rfl rfl (by simp only[lLm,lLa,zAd,zAm];omega) (by simp only[lLm,lLa,zAd,zAm];omega) ?_)|refine cX ?_ ?_<;>intro hc<;>try simp only[dE] at hc|refine blK ?_|refine exW ?_|refine skW ?_)
            all_goals (first|(exfalso;omega)|(exfalso;cases hc;done)|(exfalso;simp at hc;done)|skip)
            refine⟨(km++[i],i+1),⟨hl2,⟨by dsimp only;omega,by dsimp only;omega⟩,by dsimp only;rw[hd2,zBo];rfl⟩,by dsimp only;omega,⟨rfl,rfl,rfl,congrArg (fun l=>AV.sl 1 l (.own 2)) (Cd _ _),rfl,rfl,rfl,tI⟩,?_⟩;dsimp only;rw[show((km++[i]).map fun n=>[AV.int n]).length=(km.map fun n=>[AV.int n]).length+1 by simp];rfl
        · rw[ka oM] at hd2
          repeat' (first|refine qS ?_|apply sqW|refine rgK fun U V=>?_|(refine aN V ?_;clear V U)|refine cX ?_ ?_<;>intro hc<;>try simp only[dE] at hc|refine blK ?_|refine exW ?_|refine skW ?_)
          all_goals (first|(exfalso;omega)|skip)
          exact⟨(km,pass+1),⟨sy,⟨by dsimp only;omega,by dsimp only;omega⟩,hd2⟩,by dsimp only;omega,⟨rfl,rfl,rfl,rfl,rfl,rfl,tI⟩,rfl⟩
      · rw[ka oM] at hd1
        repeat' (first|refine qS ?_|apply sqW|refine rgK fun U V=>?_|(refine aN V ?_;clear V U)|refine cX ?_ ?_<;>intro hc<;>try simp only[dE] at hc|refine blK ?_|refine exW ?_|refine skW ?_)
        all_goals (first|(exfalso;omega)|skip)
        exact⟨(yC,r.ak),⟨sx,⟨by dsimp only;omega,by dsimp only;omega⟩,hd1⟩,by dsimp only;omega,⟨rfl,rfl,rfl,rfl,rfl,tI⟩,rfl⟩
 · rw[oy oM,zCm] at hinv
   repeat' (first|refine qS ?_|apply sqW|refine rgK fun U V=>?_|(refine aN V ?_;clear V U)|refine cX ?_ ?_<;>intro hc<;>try simp only[dE] at hc|refine blK ?_|refine exW ?_|refine skW ?_|refine rtW ?_)
   all_goals (first|(exfalso;omega)|skip)
   refine⟨.inr rfl,_,_,⟨rfl,rfl⟩,?_,?_,?_,?_,?_⟩
   all_goals rw[hP,hinv]
   all_goals first|rfl|exact Nat.le_succ_of_le (zCt _)|trace_state
structure sA (f:aG):Prop where
 kX:kI f
 Kq:f.jump.at_=0→f.jump=⟨0,0,0⟩
theorem sA.of {f:aG} (h:jR f=true):sA f:=by
 refine⟨kI.of h,fun h0=>?_⟩;unfold jR at h;simp only[zA0] at h;have hj:=h.1.2;unfold dC at hj;rw[zC5] at hj;rcases hj with hj|hj
 · exact of_decide_eq_true hj
 · simp only[zA0,zB3,zAg,dEf] at hj;omega
theorem yD {f:aG} (hB:FOk f) (a u:Int) (all:Bool) (ha:0≤a) (hu:u≤4000):(bu f a u all).length≤36000:=by
 have:=Go.Pl.jz (f:=f) (M:=4000) (fun r h=>by have:=hB.ar r h;omega) (fun r h=>by have:=hB.ar r h;have:=hB.bars;omega) u hu all (u - a).toNat a;unfold bu;omega
theorem rm (f:aG) (hf:FIn f) (hA:sA f):PCall Tryz.prog 116 [.agg (aP f)] (.sl 1 ((aK f).map fun n=>[AV.int n]) .no):=by
 have hB:=hA.kX.ok;obtain⟨j1,j2,j3,j4,j5⟩:=hA.kX.j;have B0:=hB.bars;by_cases h0:f.jump.at_=0
 · have hj:=hA.Kq h0;have e1:aK f=bu f 0 f.bars (!false):=by
    unfold aK;rw[if_pos h0,hj];show _++bu f 0 0 false=_;rw[oy (zBy _),zCm];rfl
   have hp:=tF f hf hB 0 f.bars false ⟨zBy _,by decide⟩ B0;rw[←e1] at hp;refine PCall.body Tryz.func116 rfl rfl Tryz.ntmps116 rfl rfl ?_
   repeat' (first|refine qP ?_ (h:=fun hg=>by first|exact aa|exact pc hp|exact af)|apply sqW|refine rgK fun U V=>?_|(refine aN V ?_;clear V U)|refine aB ?_|refine cX ?_ ?_<;>intro hc<;>try simp only[dE] at hc|refine skW ?_|refine rtW ?_)
   · exact⟨.inr rfl,fun _ _ h=>h⟩
   all_goals (exfalso;simp[h0] at hc)
 · have hp:=TCall.val (first:=[]) (aQ:=[]) (avs:=[.agg (aP f),.int 0,.int f.jump.at_,.b false]) (Jg f hf hB 0 f.jump.at_ false ⟨zBy _,by decide⟩ j3);have hp2:=tF f hf hB f.jump.to f.jump.ch true ⟨j2,j4⟩ j5;have hl1:=yD hB 0 f.jump.at_ (!false) (zBy _) j3;have hl2:=yD hB f.jump.to f.jump.ch (!true) j2 j5;have e1:aK f=bu f 0 f.jump.at_ (!false)++bu f f.jump.to f.jump.ch (!true):=by
    unfold aK;rw[if_neg h0];rfl
   rw[e1,zBw];generalize bu f 0 f.jump.at_ (!false)=l1 at *;generalize bu f f.jump.to f.jump.ch (!true)=l2 at *;refine PCall.body Tryz.func116 rfl rfl Tryz.ntmps116 rfl rfl ?_
   repeat' (first|refine qS ?_|apply sqW|refine rgK fun U V=>?_|(refine aN V ?_;clear V U)|refine aB ?_|refine aoE (scT (hp) rfl rfl rfl rfl rfl nd rfl rfl nds ?_)|refine cX ?_ ?_<;>intro hc<;>try simp only[dE] at hc|refine skW ?_)
   all_goals (first|(exfalso;simp[h0] at hc;done)|skip)
   rintro _ _ ⟨rfl,rfl⟩
   repeat' (first|refine qP ?_ (h:=fun hg=>by first|exact aa|exact pc hp2|exact af)|apply sqW|refine rgK fun U V=>?_|(refine aN V ?_;clear V U)|refine aoE (EStep.dH ab rfl rfl rfl dCd (Rd.w rfl tI) rfl (Rd.w rfl tI) (.sl rfl (by first|(intro x hx;rcases zA9.1 hx with rfl;rfl)|exact one_by8 _|exact dV _)) (lkG rfl) (lkG rfl) rfl rfl (by simp only[lLm,lLa,zAd,zAm];omega) (by simp only[lLm,lLa,zAd,zAm];omega) ?_)|refine rtW ?_)
   exact⟨.inr rfl,Ent.of rfl⟩
theorem zU (f:aG) (hf:FIn f):PCall Tryz.prog 114 [.agg (aP f)] (.b (aW f)):=by
 have h1:=we f.ar f.bars hf.ar;have h2:=wg f hf;have h3:=BO f hf;have hl:=hf.cuts;obtain⟨Z,hZ⟩:∃Z,(decide (1≤f.bars)&&decide (f.bars≤4000)&&(cT f.bars 0 f.ar&&decide (f.ar.length≤100))&&(dy f.ar 0 f.ends&&decide (f.ends.length≤100))&&dC f)=Z:=⟨_,rfl⟩
 have hA:jR f=(Z&&(eh f.bars f.cuts&&decide (f.cuts.length≤100))):=by rw[←hZ];rfl
 have Ce:(decide (f.bars<1)||decide (f.bars>4000)||!(cT f.bars 0 f.ar&&decide (f.ar.length≤100))||!(dy f.ar 0 f.ends&&decide (f.ends.length≤100))||!dC f||decide ((f.cuts.length:Int)>100))=!(Z&&decide (f.cuts.length≤100)):=by
  rw[←hZ];have e1:decide (f.bars<1)=!decide (1≤f.bars):=by rw[zAi];simp
  have e2:decide (f.bars>4000)=!decide (f.bars≤4000):=by rw[zAi];simp
  have e3:decide ((f.cuts.length:Int)>100)=!decide (f.cuts.length≤100):=by rw[zAi];simp;omega
  rw[e1,e2,e3];generalize decide (1≤f.bars)=a;generalize decide (f.bars≤4000)=b;generalize (cT f.bars 0 f.ar&&decide (f.ar.length≤100))=c;generalize (dy f.ar 0 f.ends&&decide (f.ends.length≤100))=d;generalize dC f=e;generalize decide (f.cuts.length≤100)=g;revert a b c d e g;decide
 rw[dJ,hA];refine PCall.body Tryz.func114 rfl rfl Tryz.ntmps114 rfl rfl ?_
 repeat' (first|refine qP ?_ (h:=fun hg=>by first|exact aa|exact pc h1|exact pc h2|exact pc h3|exact af)|apply sqW|refine rgK fun U V=>?_|(refine aN V ?_;clear V U)|refine aB ?_|refine cX ?_ ?_<;>intro hc<;>try simp only[dE] at hc|refine blK ?_|refine skW ?_|refine rtW ?_)
 · refine⟨.inr rfl,Ent.b ?_⟩;have hc2:(!(Z&&decide (f.cuts.length≤100)))=true:=by rw[←Ce];exact hc
   revert hc2;generalize decide (f.cuts.length≤100)=g;generalize eh f.bars f.cuts=x;generalize decide ((aK f).length≤20000)=y;revert Z;intro Z _ _ _;cases Z<;>cases g<;>simp
 have hc2:(Z&&decide (f.cuts.length≤100))=true:=by
  have h9:(!(Z&&decide (f.cuts.length≤100)))=false:=by rw[←Ce];exact hc
  simpa using h9
 rw[zA0] at hc2;clear hc Ce
 refine lpD (ι:=Nat) (fun k=>[(1,.ptr 0 0),(3,.int k)]) (fun _=>[.var (aP f)])
  (fun k=>k≤f.cuts.length∧(∀j,j<k→fU f.bars (f.cuts.getD j default)=true)∧(f.cuts.take k).Nodup) (fun k=>f.cuts.length - k) 1 (fun _=>rfl) 0 ⟨nZl _,fun j h=>absurd h oM,by simp⟩ ⟨rfl,rfl,tI⟩ rfl (fun _ _=>rfl) (fun k _=>rfl) ?_
 rintro k ⟨hk,au,hnd⟩;by_cases hlt:k<f.cuts.length
 · obtain⟨C,hC⟩:∃C,f.cuts.getD k default=C:=⟨_,rfl⟩
   have hc9:=Ea f C;have hh:=Eb (f.cuts.take k) C (by rw[zAn];omega);have hge:=IZ (f.cuts.take k) C;have hm:=bD hlt;rw[hC] at hm
   repeat' (first|refine qT ?_|apply sqW|refine rgK fun U V=>?_|(refine aN V ?_;clear V U)|refine cX ?_ ?_<;>intro hc<;>try simp only[dE] at hc|refine blK ?_|refine exW ?_|refine skW ?_|refine rtW ?_|refine kD fun U V=>?_|(refine aqN (V _ ?_);clear V U)|refine aqQ rfl rfl (fun hg=>by first|exact iX aM f.cuts ((k:Nat):Int) hC (hb:=oM)|exact aa|exact pc hc9|exact pc hh|exact PRun.Fv ab rfl rfl nd rfl nd rfl oM|exact af) (by exact rfl) ?_)
   all_goals first|(exfalso;omega)|skip
   · refine⟨.inr rfl,Ent.b (Eq.symm ?_)⟩;rw[hge] at hc;have hcu:eh f.bars f.cuts=false:=by
      cases h1:eh f.bars f.cuts with
      |false=>rfl
      | true =>
        exfalso;unfold eh at h1;simp only[zA0,zA4,dEt] at h1;rw[h1.1 _ hm] at hc;have h2:C∈f.cuts.take k:=by simpa using hc
        have h3:=h1.2;rw[←zCn k f.cuts,fq hlt,hC,zC7] at h3;exact h3.2.2 _ h2 _ (zB8 ..) rfl
     rw[hcu,zBu,zD5,zBu]
   · rw[hge] at hc;simp only[zAg,zBc,dEf] at hc;have e1:f.cuts.take (k+1)=f.cuts.take k++[C]:=by
      rw[zC8,zA1 hlt,←fO hlt,hC];rfl
     refine⟨k+1,⟨oM,fun j hj=>aH au (by rw[hC];exact hc.1) hj,?_⟩,oM,⟨rfl,rfl,tI⟩,rfl⟩;rw[e1,zC7];exact⟨hnd,by simp,fun a ha b hb e=>by rw[zA9.1 hb] at e;exact hc.2 (e▸ha)⟩
 · have e:f.cuts.take k=f.cuts:=zAh oM;rw[e] at hnd;have hcu:eh f.bars f.cuts=true:=by
    unfold eh;simp only[zA0,zA4,dEt];refine⟨fun x hx=>?_,hnd⟩;obtain⟨j,hj,e⟩:=zE0 hx;have:=au j oM;rw[fO hj,e] at this;exact this
   have hA2:jR f=true:=by rw[hA,hcu,hc2.1,hc2.2];rfl
   have hw:=rm f hf (sA.of hA2);have hwl:=(sA.of hA2).kX.len
   repeat' (first|refine qP ?_ (h:=fun hg=>by first|exact aa|exact pc hw|exact af)|apply sqW|refine rgK fun U V=>?_|(refine aN V ?_;clear V U)|refine cX ?_ ?_<;>intro hc<;>try simp only[dE] at hc|refine blK ?_|refine exW ?_|refine skW ?_|refine rtW ?_|refine kD fun U V=>?_|refine aqQ rfl rfl (fun hg=>by first|exact aa|exact af) (by exact rfl) ?_)
   all_goals first|(exfalso;omega)|skip
   refine⟨.inr rfl,Ent.b ?_⟩;rw[hcu,hc2.1,hc2.2,zAi];simp;omega
end Go.Proofs.YthiaimakjmhegaaGreatDoor.Pl
