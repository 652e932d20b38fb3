/- Parts of the proof. No statement is proved here. -/
import Derived.Test.YthiaimakjmhegaaGreatDoorP32
set_option linter.unusedVariables false
set_option linter.unusedSimpArgs false
set_option maxHeartbeats 16000000
set_option maxRecDepth 20000
namespace Go.Proofs.YthiaimakjmhegaaGreatDoor.Top
open Go.Ab Go.Jo Go.Sy Go.Pl De Pl
attribute [local irreducible] AWP AOps EStep AQ PStep PRun PCall TCall VCall
def wK (many:Int) (s:Std):Bool:=decide (s.known>many)||!iw s
theorem CP (many:Int) (s:Std) (ht:Txt s.evs) (hl:s.evs.length≤1000000000):PCall Tryz.prog 41 [.agg (aR s),.iptr [.int many]] (.b (wK many s)):=by
 have h:=dz s ht hl;refine PCall.body Tryz.func41 rfl rfl Tryz.ntmps41 rfl rfl ?_
 repeat' (first|refine qP ?_ (h:=fun hg=>by first|exact aa|exact pc h|fail)|apply sqW|refine rgK fun U V=>?_|(refine aN V ?_;clear V U)|refine aB ?_|refine rtW ?_)
 exact⟨.inr rfl,Ent.b rfl⟩
instance:Inhabited Std:=⟨⟨0,⟨0,0,0⟩,0,0,[]⟩⟩
theorem CQ (l:List Std) (fv:AV) (p:Std→Bool) (hp:∀x∈l,bF Tryz.prog fv [.agg (aR x)] (.b (p x))) (hl:l.length≤1000000000) :
 PCall Tryz.prog 108 [.sl 7 (l.map aR) .no,fv] (.int (az p l)):=by
 refine PCall.di [1] Tryz.func108 rfl rfl Tryz.ntmps108 rfl rfl ?_
 repeat' (first|refine qT ?_|apply sqW|refine rgK fun U V=>?_|(refine aN V ?_;clear V U)|refine blK ?_)
 refine lpW (ι:=Nat) (fun k=>[(0,.sl 7 (l.map aR) .no),(1,.ext fv),(7,.int l.length),(8,.int k)]) (fun _=>[]) (fun k=>k≤l.length∧∀j,j<k→p (l.getD j default)=false) (fun k=>l.length - k) 0 ⟨nZl _,fun j h=>absurd h oM⟩ ⟨rfl,rfl,rfl,rfl,tI⟩ rfl ?_;rintro k ⟨hk,au⟩;by_cases hlt:k<l.length
 · repeat' (first|refine qP ?_ (h:=fun hg=>by first|exact aa|exact PRun.fx (hp _ (bD hlt)) rfl rfl nd rfl nds|exact af)|apply sqW|refine rgK fun U V=>?_|(refine aN V ?_;clear V U)|refine cX ?_ ?_<;>intro hc<;>try simp only[dE] at hc|refine blK ?_|refine exW ?_|refine skW ?_|refine rtW ?_)
   · refine⟨.inr rfl,?_⟩;rw[show az p l=k from bP hlt hc au];exact fun _ _ h=>h
   · exact⟨k+1,⟨oM,fun j hj=>aH au hc hj⟩,oM,⟨rfl,rfl,rfl,rfl,tI⟩,rfl⟩
   · exfalso;omega
 · repeat' (first|refine qT ?_|apply sqW|refine rgK fun U V=>?_|(refine aN V ?_;clear V U)|refine cX ?_ ?_<;>intro hc<;>try simp only[dE] at hc|refine blK ?_|refine exW ?_|refine skW ?_|refine rtW ?_)
   · exfalso;omega
   · refine⟨.inr rfl,?_⟩;rw[show az p l = -1 from bX fun j hj=>au j oM];exact fun _ _ h=>h
theorem CR (l:List Std) (fv:AV) (p:Std→Bool) (hp:∀x∈l,bF Tryz.prog fv [.agg (aR x)] (.b (p x))) (hl:l.length≤1000000000) :
 PCall Tryz.prog 43 [.sl 7 (l.map aR) .no,fv] (.b (decide (az p l≥0))):=by
 have h:=CQ l fv p hp hl;refine PCall.di [1] Tryz.func43 rfl rfl Tryz.ntmps43 rfl rfl ?_
 repeat' (first|refine qP ?_ (h:=fun hg=>by first|exact aa|exact pc h|fail)|apply sqW|refine rgK fun U V=>?_|(refine aN V ?_;clear V U)|refine rtW ?_)
 exact⟨.inr rfl,Ent.b rfl⟩
def uO (l:List Std) (many:Int):Bool:=decide ((l.map (·.id)).Nodup)&&l.all fun s=>!wK many s
theorem Hl (l:List Std) (hl:l.length≤1000000000) (hs:∀s∈l,Txt s.evs∧s.evs.length≤1000000000) (many:Int):PCall Tryz.prog 16 [.sl 7 (l.map aR) .no,.int many] (.b (uO l many)):=by
 have h:=CR l (.fn (.func 41) [] [.iptr [.int many]]) (wK many) (fun x hx=>⟨_,[],_,rfl,CP many x (hs x hx).1 (hs x hx).2⟩) hl;refine PCall.body Tryz.func16 rfl rfl Tryz.ntmps16 rfl rfl ?_
 repeat' (first|refine qT ?_|apply sqW|refine rgK fun U V=>?_|(refine aN V ?_;clear V U)|refine aB ?_|refine aoE (EStep.dn rfl rfl rfl rfl ?_)|refine blK ?_)
 refine lpD (ι:=Nat) (fun k=>[(0,.sl 7 (l.map aR) .no),(3,.ptr 0 0),(5,.map 1),(10,.sl 7 (l.map aR) .no),(11,.int l.length),(12,.int k)]) (fun k=>[.var [.int many],.map (Go.Ab.aT ekI AV.b (eC ((l.take k).map (·.id))))])
  (fun k=>k≤l.length) (fun k=>l.length - k) 2 (fun _=>rfl) 0 (nZl _) ⟨rfl,rfl,rfl,rfl,rfl,rfl,tI⟩ rfl (fun _ _=>rfl) (fun k _=>by simp[aD,aT,aO]) ?_
 intro k hk;by_cases hlt:k<l.length
 · obtain⟨e,he⟩:∃e,l.getD k default=e:=⟨_,rfl⟩
   have hst:=yY (fun e:Std=>e.id) l hlt;rw[he] at hst
   repeat' (first|refine qP ?_ (h:=fun hg=>by first|exact iX aR l ((k:Nat):Int) he (hb:=oM)|exact aa|fail)|apply sqW|refine rgK fun U V=>?_|(refine aN V ?_;clear V U)|refine aS ?_|refine aA ?_|refine aoE (EStep.fu (ek:=ekI) (ev:=AV.b) (v:=true) (aL (lkG rfl)) (lkG rfl) rfl rfl rfl (Rd.w rfl tI) rfl (Rd.w rfl tI) rfl (Rd.w rfl tI) ?_)|refine cX ?_ ?_<;>intro hc<;>try simp only[dE] at hc|refine blK ?_|refine exW ?_|refine skW ?_)
   all_goals (first|exact dd|skip)
   exact⟨k+1,hlt,oM,⟨rfl,rfl,rfl,rfl,rfl,rfl,tI⟩,by rw[hst];rfl⟩
 · obtain rfl:k=l.length:=oM;rw[zBl];have hn:=vQ (l.map (·.id));rw[lLm] at hn
   repeat' (first|refine qP ?_ (h:=fun hg=>by first|exact aa|exact pbW (h) rfl rfl nd rfl rfl nds|exact PRun.sM (ek:=ekI) (ev:=AV.b) rfl (Rd.w rfl nd) (Or.inr ⟨_,rfl,rfl⟩) (lkG rfl)|exact af)|apply sqW|refine rgK fun U V=>?_|(refine aN V ?_;clear V U)|refine aS ?_|refine aA ?_|refine cX ?_ ?_<;>intro hc<;>try simp only[dE] at hc|refine blK ?_|refine exW ?_|refine skW ?_|refine rtW ?_)
   all_goals (first|exact dd|skip)
   refine⟨.inr rfl,Ent.b ?_⟩;unfold uO;rw[Ed.gq,show(((eC (l.map fun x=>x.id)).length:Int)==(l.length:Int))=decide ((l.map (·.id)).Nodup) from hn]
end Go.Proofs.YthiaimakjmhegaaGreatDoor.Top
