/- Parts of the proof. No statement is proved here. -/
import Derived.Test.YtmjdoencpjpegaaGreatDoorP24
set_option linter.unusedVariables false
set_option linter.unusedSimpArgs false
set_option maxHeartbeats 16000000
set_option maxRecDepth 20000
namespace Go.Proofs.YtmjdoencpjpegaaGreatDoor.Al
open Go.Ab Go.Sort
attribute [local irreducible] AWP AOps EStep AQ PStep PRun PCall TCall VCall
def kP (l:PL) (k:Nat):PL:=(List.range l.length).map fun i=>if i<k∨l.length≤i+k then l.getD (l.length - 1 - i) default else l.getD i default
theorem gw (l:PL) (k:Nat):(kP l k).length=l.length:=by simp[kP]
theorem mH (l:PL) (k:Nat) {i:Nat} (h:i<l.length):(kP l k).getD i default=if i<k∨l.length≤i+k then l.getD (l.length - 1 - i) default else l.getD i default:=by
 unfold kP;rw[zB5,zA3,zDg h];rfl
theorem tU {l m:PL} (h:l.length=m.length) (hg:∀i,i<l.length→l.getD i default=m.getD i default):l=m:=by
 refine List.ext_getElem h fun i h1 h2=>?_
 have:=hg i h1;rwa [aU h1,aU h2] at this
theorem FO (l:PL):kP l 0=l:=by
 refine tU (gw l 0) fun i h=>?_
 rw[gw] at h;rw[mH l 0 h,if_neg oM]
theorem Ia {l:PL} {k:Nat} (h:l.length≤2 * k+1):kP l k=l.reverse:=by
 refine tU (by rw[gw,zDs]) fun i hi=>?_
 rw[gw] at hi;rw[mH l k hi];have e:l.reverse.getD i default=l.getD (l.length - 1 - i) default:=by
  rw[aU (by rw[zDs];exact hi),List.getElem_reverse,aU oM]
 rw[e];split
 · rfl
 · rename_i g;have:l.length - 1 - i=i:=oM;rw[this]
theorem zS {l:PL} {j:Nat} (v:Int×Int) {i:Nat} (h:i<l.length):(l.set j v).getD i default=if j=i then v else l.getD i default:=by
 rw[zB5,zE2];split
 · rename_i e;subst e;rw[if_pos h];rfl
 · rw[zB5]
theorem Ib {l:PL} {k:Nat} (h:k+k+1<l.length):((kP l k).set k (l.getD (l.length - 1 - k) default)).set (l.length - 1 - k) (l.getD k default)=kP l (k+1):=by
 refine tU (by rw[zCk,zCk,gw,gw]) fun i hi=>?_
 rw[zCk,zCk,gw] at hi;rw[zS _ (by rw[zCk,gw];exact hi),zS _ (by rw[gw];exact hi),mH l k hi,mH l (k+1) hi];by_cases h1:l.length - 1 - k=i
 · rw[if_pos h1,if_pos oM,←h1,show l.length - 1 - (l.length - 1 - k)=k by omega]
 · rw[if_neg h1];by_cases h2:k=i
   · subst h2;rw[if_pos rfl,if_pos oM]
   · rw[if_neg h2];by_cases h3:i<k∨l.length≤i+k
     · rw[if_pos h3,if_pos oM]
     · rw[if_neg h3,if_neg oM]
def RS (p:Nat→aF) (ver:Nat) (l:PL):aa:=[p 0,p 1,p 2,p 3,p 4,p 5,p 6,p 7,p 8,p 9,p 10,p 11,p 12,.arr 2 ver (l.map bz)]
theorem FP (m ver:Nat) (l:PL):ak m (.arr 2 ver (l.map bz))=true:=by
 show(l.map bz).all _=true;rw[zA6];intro x hx;obtain⟨p,_,rfl⟩:=zAf.1 hx;rfl
theorem ya {p:Nat→aF} (hp:∀i,ak 14 (p i)=true) (ver:Nat) (l:PL):(RS p ver l).all (ak 14)=true:=by
 simp only[RS,zAq,zAu,hp,FP];rfl
theorem xk (l:PL) (i:Nat) (v:Int×Int):(l.map bz).set i (bz v)=(l.set i v).map bz:=by rw[List.map_set]
theorem zT {p:Nat→aF} (hp:∀i,ak 14 (p i)=true) (ver:Nat) (l:PL) (hl:l.length≤1000000) :
 TCall Tryz.prog 201 [.sla 13 2 0 l.length ver] (RS p ver l) (fun r s=>r=.tup []∧s=RS p ver l.reverse):=by
 refine TCall.body Tryz.func201 rfl rfl Tryz.ntmps201 rfl rfl ?_
 repeat' (first|refine qP ?_ (h:=fun hg=>by first|exact ae|exact PRun.k8 ab rfl rfl nd rfl|exact ah)|apply sqW|refine rgK fun U V=>?_|(refine aN V ?_;clear V U)|refine blK ?_)
 refine lpD (ι:=Nat) (fun q=>[(0,.sla 13 2 0 l.length ver),(2,.int q),(3,.int ((l.length:Int) - 1 - q))]) (fun q=>RS p ver (kP l q)) (fun q=>2 * q≤l.length+1) (fun q=>l.length - q) 14 (fun _=>rfl) 0 (nZl _) ⟨rfl,rfl,?_,tI⟩ (by show _=RS p ver (kP l 0);rw[FO]) (fun _ _=>rfl) (fun q _=>ya hp ver _) ?_
 · show AV.int _=AV.int _;exact congrArg AV.int oM
 intro q hk;by_cases hlt:2 * q+1<l.length
 · have hst:=Ib (l:=l) (k:=q) oM;have hA:=gw l q;obtain⟨u,hu⟩:∃u,l.getD q default=u:=⟨_,rfl⟩
   obtain⟨v,hv⟩:∃v,l.getD (l.length - 1 - q) default=v:=⟨_,rfl⟩
   have e1:(kP l q).getD q default=u:=by rw[mH l q oM,if_neg oM];exact hu
   have e2:(kP l q).getD (l.length - 1 - q) default=v:=by rw[mH l q oM,if_neg oM];exact hv
   rw[hu,hv] at hst;generalize hr:kP l q=A at *
   repeat' (first|refine qS ?_|apply sqW|refine rgK fun U V=>?_|(refine aN V ?_;clear V U)|refine cX ?_ ?_<;>intro hc<;>try simp only[dE] at hc|refine blK ?_|refine exW ?_|refine skW ?_)
   all_goals (first|exact dd|skip)
   refine AWP.gj dJ (fun j=>match j with|0=>RS p ver A|1=>RS p ver (A.set q v)|_=>RS p ver ((A.set q v).set (l.length - 1 - q) u)) rfl (by kernel_rfl) dKn rfl dKn (fun U V=>?_)
   repeat' (first
    |refine yt (h:=by refine⟨?_,?_,?_,?_⟩<;>intro hh hg<;>first|exact absurd hh dKn|exact PRun.eq (v:=.agg (bz (A.getD q default))) (PRun.EB (f:=bz) (xs:=A) (l:=13) (i:=q) ab rfl rfl nd rfl oM rfl rfl) (congrArg (fun x=>AV.agg (bz x)) e1)|exact PRun.eq (v:=.agg (bz (A.getD (l.length - 1 - q) default))) (PRun.EB (f:=bz) (xs:=A) (l:=13) (i:=l.length - 1 - q) ab rfl rfl nd rfl oM rfl rfl) (congrArg (fun x=>AV.agg (bz x)) e2)|exact PRun.eq (v:=.bo 13 2 ((l.length:Int) - 1 - q).toNat 0 ver) (PRun.se (i:=(l.length:Int) - 1 - q) ab rfl rfl nd rfl nd rfl (zAa _) rfl oM) (congrArg (fun n=>AV.bo 13 2 n 0 ver) (show((l.length:Int) - 1 - q).toNat=l.length - 1 - q by omega))|exact PRun.eq (v:=.bo 13 2 ((q:Nat):Int).toNat 0 ver) (PRun.se (i:=((q:Nat):Int)) ab rfl rfl nd rfl nd rfl (zAa _) rfl oM) (show AV.bo 13 2 ((q:Nat):Int).toNat 0 ver=AV.bo 13 2 q 0 ver from rfl)|exact ae|exact ah|fail) (hk:=?_)|fail)
   refine YQ.e (v:=.any) (d:=none) rfl rfl rfl ?_ ?_
   · intro au he;refine EStep.dK (l:=13) (i:=q) (us:=bz v) ab rfl rfl ((ai (he 26 dKn)).trans rfl) (by rw[aj (he 26 dKn)];first|exact tI|exact rfl) rfl (by rw[lLm];omega) ((ai (he 21 dKn)).trans rfl) (by rw[aj (he 21 dKn)];first|exact tI|exact rfl) rfl rfl rfl rfl rfl rfl ⟨rfl,?_⟩;rw[xk];rfl
   repeat' (first
    |refine yt (h:=by refine⟨?_,?_,?_,?_⟩<;>intro hh hg<;>first|exact absurd hh dKn|exact PRun.eq (v:=.bo 13 2 ((l.length:Int) - 1 - q).toNat 0 ver) (PRun.se (i:=(l.length:Int) - 1 - q) ab rfl rfl nd rfl nd rfl (zAa _) rfl oM) (congrArg (fun n=>AV.bo 13 2 n 0 ver) (show((l.length:Int) - 1 - q).toNat=l.length - 1 - q by omega))|exact ae|exact ah|fail) (hk:=?_)|fail)
   refine YQ.e (v:=.any) (d:=none) rfl rfl rfl ?_ ?_
   · intro au he;refine EStep.dK (l:=13) (i:=l.length - 1 - q) (us:=bz u) ab rfl rfl ((ai (he 27 dKn)).trans rfl) (by rw[aj (he 27 dKn)];first|exact tI|exact rfl) rfl (by rw[lLm,zCk];omega) ((ai (he 25 dKn)).trans rfl) (by rw[aj (he 25 dKn)];first|exact tI|exact rfl) rfl rfl rfl rfl rfl rfl ⟨rfl,?_⟩;rw[xk];rfl
   repeat' (first
    |refine yt (hk:=?_)|fail)
   refine YQ.nil (V _ _ ?_);clear V U;show AWP _ _ _ _ _ (RS p ver ((A.set q v).set (l.length - 1 - q) u));rw[hst]
   repeat' (first|refine qS ?_|refine rgK fun U V=>?_|(refine aN V ?_;clear V U))
   refine⟨q+1,oM,oM,⟨rfl,rfl,?_,tI⟩,rfl⟩;exact congrArg AV.int oM
 · repeat' (first|refine qS ?_|apply sqW|refine rgK fun U V=>?_|(refine aN V ?_;clear V U)|refine cX ?_ ?_<;>intro hc<;>try simp only[dE] at hc|refine blK ?_|refine exW ?_|refine skW ?_)
   all_goals (first|exact dd|skip)
   refine⟨.inl rfl,.tup [],RS p ver l.reverse,⟨rfl,rfl⟩,?_,nLr _,ya hp ver _,rfl,rfl⟩;show RS p ver (kP l q)=_;rw[Ia oM]
theorem xK {p:Nat→aF} (hp:∀i,ak 14 (p i)=true) (ver:Nat) :
 TCall Tryz.prog 201 [.sl 2 [] (.own 13)] (RS p ver []) (fun r s=>r=.tup []∧s=RS p ver []):=by
 refine TCall.body Tryz.func201 rfl rfl Tryz.ntmps201 rfl rfl ?_
 repeat' (first|refine qT ?_|apply sqW|refine rgK fun U V=>?_|(refine aN V ?_;clear V U)|refine blK ?_)
 refine lpD (ι:=Unit) (fun _=>[(2,.int 0),(3,.int (-1))]) (fun _=>RS p ver []) (fun _=>True) (fun _=>0) 14 (fun _=>rfl) () tI ⟨rfl,rfl,tI⟩ rfl (fun _ _=>rfl) (fun _ _=>ya hp ver _) ?_;rintro⟨⟩ _
 repeat' (first|refine qS ?_|apply sqW|refine rgK fun U V=>?_|(refine aN V ?_;clear V U)|refine cX ?_ ?_<;>intro hc<;>try simp only[dE] at hc|refine blK ?_|refine exW ?_|refine skW ?_)
 all_goals (first|exact dd|skip)
 exact⟨.inl rfl,.tup [],RS p ver [],⟨rfl,rfl⟩,rfl,nLr _,ya hp ver _,rfl,rfl⟩
end Go.Proofs.YtmjdoencpjpegaaGreatDoor.Al
