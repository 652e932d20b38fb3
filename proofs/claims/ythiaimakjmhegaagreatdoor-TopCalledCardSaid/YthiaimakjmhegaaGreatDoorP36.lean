/- Parts of the proof. No statement is proved here. -/
import Derived.Test.YthiaimakjmhegaaGreatDoorP32
set_option linter.unusedVariables false
set_option linter.unusedSimpArgs false
set_option maxHeartbeats 16000000
set_option maxRecDepth 20000
namespace Go.Proofs.YthiaimakjmhegaaGreatDoor.Top
open Go.Ab Go.Jo Go.Sy Go.Pl Al Cy De Pl
attribute [local irreducible] AWP AOps EStep AQ PStep PRun PCall TCall VCall
abbrev zSc:List AV:=[.int 0,.nils,.nils,.nils]
theorem CT (ws:List aV) (hl:ws.length≤1000000000) (v:Int) {k:Nat} (hk:gS ws v=k) (hkl:k<ws.length) :
 PCall Tryz.prog 19 [.sl 12 (ws.map aU) .no,.int v] (.tup [.agg (bg (ws.getD k default).score),.b true]):=by
 obtain⟨k',hk',uc,hp,hno⟩:=bY (p:=fJ v) (l:=ws) (by have:gS ws v=az (fJ v) ws:=rfl;omega);have ek:k'=k:=by have:gS ws v=az (fJ v) ws:=rfl;omega
 subst ek;refine PCall.bN ab Tryz.func19 rfl rfl Tryz.ntmps19 rfl ?_
 repeat' (first|refine qT ?_|apply sqW|refine rgK fun U V=>?_|(refine aN V ?_;clear V U)|refine aA ?_|refine blK ?_)
 refine lpD (ι:=Nat) (fun j=>[(0,.sl 12 (ws.map aU) .no),(1,.int v),(4,.ptr 0 0),(8,.sl 12 (ws.map aU) .no),(9,.int ws.length),(10,.int j)]) (fun _=>[.var zSc]) (fun j=>j≤k') (fun j=>ws.length - j) 1 (fun _=>rfl) 0 (nZl _) ⟨rfl,rfl,rfl,rfl,rfl,rfl,tI⟩ rfl (fun _ _=>rfl) (fun _ _=>rfl) ?_;intro j hj;have hlt:j<ws.length:=oM;obtain⟨w,hw⟩:∃w,ws.getD j default=w:=⟨_,rfl⟩
 by_cases hjk:j=k'
 · subst hjk;have hv:(w.score.version==v)=true:=by rw[hw] at hp;exact hp
   rw[hw]
   repeat' (first|refine qP ?_ (h:=fun hg=>by first|exact iX aU ws ((j:Nat):Int) hw (hb:=oM)|exact aa|fail)|apply sqW|refine rgK fun U V=>?_|(refine aN V ?_;clear V U)|refine aS ?_|refine aA ?_|refine cX ?_ ?_<;>intro hc<;>try simp only[dE] at hc|refine blK ?_|refine exW ?_|refine skW ?_|refine rtW ?_)
   all_goals (first|(exfalso;omega)|skip)
   · exact⟨.inr rfl,_,rfl,Ent.of rfl⟩
   · exfalso;have h9:(w.score.version==v)=false:=hc;rw[hv] at h9;cases h9
 · have hv:(w.score.version==v)=false:=by
    have:=hno j oM;rw[hw] at this;exact this
   repeat' (first|refine qP ?_ (h:=fun hg=>by first|exact iX aU ws ((j:Nat):Int) hw (hb:=oM)|exact aa|exact pbD ab rfl rfl nds|fail)|apply sqW|refine rgK fun U V=>?_|(refine aN V ?_;clear V U)|refine aS ?_|refine aA ?_|refine cX ?_ ?_<;>intro hc<;>try simp only[dE] at hc|refine blK ?_|refine exW ?_|refine skW ?_|refine rtW ?_)
   all_goals (first|(exfalso;omega)|skip)
   · exfalso;have h9:(w.score.version==v)=true:=hc;rw[hv] at h9;cases h9
   · exact⟨j+1,oM,oM,⟨rfl,rfl,rfl,rfl,rfl,rfl,tI⟩,rfl⟩
theorem CU (es:List Ed.ah) (hl:es.length≤1000000000) (v:Int) :
 PCall Tryz.prog 21 [.sl 4 (es.map Ed.aF) .no,.int v] (.tup [.agg (iH es v),.b (!decide (dg es v<0))]):=by
 refine PCall.bN ab Tryz.func21 rfl rfl Tryz.ntmps21 rfl ?_
 repeat' (first|refine qT ?_|apply sqW|refine rgK fun U V=>?_|(refine aN V ?_;clear V U)|refine aA ?_|refine blK ?_)
 refine lpD (ι:=Nat) (fun j=>[(0,.sl 4 (es.map Ed.aF) .no),(1,.int v),(4,.ptr 0 0),(8,.sl 4 (es.map Ed.aF) .no),(9,.int es.length),(10,.int j)]) (fun _=>[.var zEd]) (fun j=>j≤es.length∧∀i,i<j→((es.getD i default).id==v)=false) (fun j=>es.length - j) 1 (fun _=>rfl) 0 ⟨nZl _,fun j h=>absurd h oM⟩ ⟨rfl,rfl,rfl,rfl,rfl,rfl,tI⟩ rfl (fun _ _=>rfl) (fun _ _=>rfl) ?_;rintro j ⟨hj,au⟩;by_cases hlt:j<es.length
 · obtain⟨e,he⟩:∃e,es.getD j default=e:=⟨_,rfl⟩
   cases hv:(e.id==v) with
   | true =>
     have e1:dg es v=j:=bP (p:=fun e:Ed.ah=>e.id==v) hlt (by rw[he];exact hv) au;have e2:iH es v=Ed.aF e:=by unfold iH;rw[e1,if_neg oM,zAe,he]
     rw[e2,e1,decide_eq_false oM]
     repeat' (first|refine qP ?_ (h:=fun hg=>by first|exact PRun.eq (v:=.iptr (Ed.aF (es.getD ((j:Nat):Int).toNat default))) (piW ab rfl rfl nd rfl nd rfl rfl oM) (congrArg (fun x=>AV.iptr (Ed.aF x)) (show es.getD ((j:Nat):Int).toNat default=e from he))|exact aa|fail)|apply sqW|refine rgK fun U V=>?_|(refine aN V ?_;clear V U)|refine aS ?_|refine aA ?_|refine cX ?_ ?_<;>intro hc<;>try simp only[dE] at hc|refine blK ?_|refine exW ?_|refine skW ?_|refine rtW ?_)
     all_goals (first|(exfalso;omega)|skip)
     · exact⟨.inr rfl,_,rfl,Ent.of rfl⟩
     · exfalso;have h9:(e.id==v)=false:=hc;rw[hv] at h9;cases h9
   | false =>
     repeat' (first|refine qP ?_ (h:=fun hg=>by first|exact PRun.eq (v:=.iptr (Ed.aF (es.getD ((j:Nat):Int).toNat default))) (piW ab rfl rfl nd rfl nd rfl rfl oM) (congrArg (fun x=>AV.iptr (Ed.aF x)) (show es.getD ((j:Nat):Int).toNat default=e from he))|exact aa|exact pbD ab rfl rfl nds|fail)|apply sqW|refine rgK fun U V=>?_|(refine aN V ?_;clear V U)|refine aS ?_|refine aA ?_|refine cX ?_ ?_<;>intro hc<;>try simp only[dE] at hc|refine blK ?_|refine exW ?_|refine skW ?_|refine rtW ?_)
     all_goals (first|(exfalso;omega)|skip)
     · exfalso;have h9:(e.id==v)=true:=hc;rw[hv] at h9;cases h9
     · exact⟨j+1,⟨hlt,fun i hi=>aH (P:=fun i=>((es.getD i default).id==v)=false) au (by rw[he];exact hv) hi⟩,oM,⟨rfl,rfl,rfl,rfl,rfl,rfl,tI⟩,rfl⟩
 · have e1:dg es v = -1:=bX (p:=fun e:Ed.ah=>e.id==v) fun i hi=>au i oM
   have e2:iH es v=zEd:=by unfold iH;rw[e1,if_pos oM]
   rw[e2,e1,decide_eq_true oM]
   repeat' (first|refine qP ?_ (h:=fun hg=>by first|exact aa|exact pbD ab rfl rfl nds|exact af)|apply sqW|refine rgK fun U V=>?_|(refine aN V ?_;clear V U)|refine aS ?_|refine aA ?_|refine cX ?_ ?_<;>intro hc<;>try simp only[dE] at hc|refine blK ?_|refine exW ?_|refine skW ?_|refine rtW ?_)
   all_goals (first|(exfalso;omega)|skip)
   exact⟨.inr rfl,_,rfl,Ent.of rfl⟩
end Go.Proofs.YthiaimakjmhegaaGreatDoor.Top
