/- Parts of the proof. No statement is proved here. -/
import Derived.Test.YthiaimakjmhegaaGreatDoorP29
import Derived.Test.YthiaimakjmhegaaGreatDoorP33
import Derived.Test.YthiaimakjmhegaaGreatDoorP34
set_option linter.unusedVariables false
set_option linter.unusedSimpArgs false
set_option maxHeartbeats 16000000
set_option maxRecDepth 20000
namespace Go.Proofs.YthiaimakjmhegaaGreatDoor.Top
open Go.Ab Go.Jo Go.Sy Go.Pl Al Cy De Pl
attribute [local irreducible] AWP AOps EStep AQ PStep PRun PCall TCall VCall
def lC (e:Ed.ah):Bool:=decide ((e.bars.length:Int)≤80)&&decide ((e.letters.length:Int)≤60)
def tW {α:Type} [Inhabited α] (n:Nat) (p:α→Bool) (l:List α):Bool:=(List.range (min l.length n)).all fun i=>p (l.getD i default)
theorem vW {α:Type} [Inhabited α] {n k:Nat} {p:α→Bool} {l:List α} (hk:k<l.length) (hn:k<n) (h:p (l.getD k default)=false):tW n p l=false :=
 zC6.2 ⟨k,zAs.2 oM,by rw[h];decide⟩
theorem tX {α:Type} [Inhabited α] {n k:Nat} {p:α→Bool} {l:List α} (hk:k=l.length∨k=n) (h:∀j,j<k→p (l.getD j default)=true):tW n p l=true :=
 zA4.2 fun j hj=>h j (by have:=zAs.1 hj;omega)
def zc (es:List Ed.ah):Bool:=tW 14 lC es&&decide ((es.length:Int)≤13)
theorem Ag (es:List Ed.ah) (hl:es.length≤9223372036854775807):PCall Tryz.prog 11 [.sl 4 (es.map Ed.aF) .no] (.b (zc es)):=by
 unfold zc;refine PCall.body Tryz.func11 rfl rfl Tryz.ntmps11 rfl rfl ?_
 repeat' (first|refine qS ?_|apply sqW|refine rgK fun U V=>?_|(refine aN V ?_;clear V U)|refine blK ?_)
 refine lpW (ι:=Nat) (fun k=>[(0,.sl 4 (es.map Ed.aF) .no),(3,.int k)]) (fun _=>[]) (fun k=>k≤es.length∧k≤14∧∀j,j<k→lC (es.getD j default)=true) (fun k=>es.length - k) 0 ⟨nZl _,nZl _,fun j h=>absurd h oM⟩ ⟨rfl,rfl,tI⟩ rfl ?_;rintro k ⟨hk,h5,au⟩;by_cases hlt:k<es.length∧k<14
 · obtain⟨hlt,h4⟩:=hlt;obtain⟨e,he⟩:∃e,es.getD k default=e:=⟨_,rfl⟩
   have hv:=Ed.xB e
   repeat' (first|refine qP ?_ (h:=fun hg=>by first|exact PRun.eq (v:=.iptr (Ed.aF (es.getD ((k:Nat):Int).toNat default))) (piW ab rfl rfl nd rfl nd rfl rfl oM) (congrArg (fun x=>AV.iptr (Ed.aF x)) (show es.getD ((k:Nat):Int).toNat default=e from he))|exact aa|exact pc hv|exact af)|apply sqW|refine rgK fun U V=>?_|(refine aN V ?_;clear V U)|refine cX ?_ ?_<;>intro hc<;>try simp only[dE] at hc|refine blK ?_|refine exW ?_|refine skW ?_|refine rtW ?_)
   all_goals (first|(exfalso;simp at hc;omega)|skip)
   · refine⟨.inr rfl,Ent.b (Eq.symm ?_)⟩;rw[vW hlt h4 (by rw[he];have h9:(!lC e)=true:=hc;simpa using h9)];rfl
   · exact⟨k+1,⟨hlt,oM,fun j hj=>aH au (by rw[he];have h9:(!lC e)=false:=hc;simpa using h9) hj⟩,oM,⟨rfl,rfl,tI⟩,rfl⟩
 · have hke:k=es.length∨k=14:=oM
   repeat' (first|refine qT ?_|apply sqW|refine rgK fun U V=>?_|(refine aN V ?_;clear V U)|refine cX ?_ ?_<;>intro hc<;>try simp only[dE] at hc|refine blK ?_|refine exW ?_|refine skW ?_|refine rtW ?_)
   all_goals (first|(exfalso;simp at hc;omega)|skip)
   refine⟨.inr rfl,Ent.b ?_⟩;rw[tX hke au,zAy]
def tY (s:Std):Bool:=decide ((s.evs.length:Int)≤30)
def tZ (l:List Std):Bool:=tW 9 tY l&&decide ((l.length:Int)≤8)
theorem Ah (l:List Std) (hs:l.length≤9223372036854775807) (he:∀s∈l,s.evs.length≤9223372036854775807):PCall Tryz.prog 12 [.sl 7 (l.map aR) .no] (.b (tZ l)):=by
 unfold tZ;refine PCall.body Tryz.func12 rfl rfl Tryz.ntmps12 rfl rfl ?_
 repeat' (first|refine qS ?_|apply sqW|refine rgK fun U V=>?_|(refine aN V ?_;clear V U)|refine blK ?_)
 refine lpW (ι:=Nat) (fun k=>[(0,.sl 7 (l.map aR) .no),(3,.int k)]) (fun _=>[]) (fun k=>k≤l.length∧k≤9∧∀j,j<k→tY (l.getD j default)=true) (fun k=>l.length - k) 0 ⟨nZl _,nZl _,fun j h=>absurd h oM⟩ ⟨rfl,rfl,tI⟩ rfl ?_;rintro k ⟨hk,h5,au⟩;by_cases hlt:k<l.length∧k<9
 · obtain⟨hlt,h4⟩:=hlt;obtain⟨s,hsk⟩:∃s,l.getD k default=s:=⟨_,rfl⟩
   have hv:=Cm s (by have:=he s (hsk▸bD hlt);omega)
   repeat' (first|refine qP ?_ (h:=fun hg=>by first|exact iX aR l ((k:Nat):Int) hsk (hb:=oM)|exact aa|exact pc hv|exact af)|apply sqW|refine rgK fun U V=>?_|(refine aN V ?_;clear V U)|refine cX ?_ ?_<;>intro hc<;>try simp only[dE] at hc|refine blK ?_|refine exW ?_|refine skW ?_|refine rtW ?_)
   all_goals (first|(exfalso;simp at hc;omega)|skip)
   · refine⟨.inr rfl,Ent.b (Eq.symm ?_)⟩;rw[vW hlt h4 (by rw[hsk];unfold tY;simpa using hc)];rfl
   · exact⟨k+1,⟨hlt,oM,fun j hj=>aH au (by rw[hsk];unfold tY;simpa using hc) hj⟩,oM,⟨rfl,rfl,tI⟩,rfl⟩
 · have hke:k=l.length∨k=9:=oM
   repeat' (first|refine qT ?_|apply sqW|refine rgK fun U V=>?_|(refine aN V ?_;clear V U)|refine cX ?_ ?_<;>intro hc<;>try simp only[dE] at hc|refine blK ?_|refine exW ?_|refine skW ?_|refine rtW ?_)
   all_goals (first|(exfalso;simp at hc;omega)|skip)
   refine⟨.inr rfl,Ent.b ?_⟩;rw[tX hke au,zAy]
def pb (w:aV):Bool:=w.score.few&&nh w.form&&decide ((w.score.bars.length:Int)≤40)&&decide ((w.gK.length:Int)≤60)
theorem C0 (w:aV) (hz:kU w) (ht:w.gK.length≤9223372036854775807):PCall Tryz.prog 35 [.agg (aU w)] (.b (pb w)):=by
 have h1:=Ef w.score hz.score;have h2:=vL w.form hz.form;have hb:=hz.score.1;refine PCall.body Tryz.func35 rfl rfl Tryz.ntmps35 rfl rfl ?_
 repeat' (first|refine qP ?_ (h:=fun hg=>by first|exact aa|exact pc h1|exact pc h2|exact af)|apply sqW|refine rgK fun U V=>?_|(refine aN V ?_;clear V U)|refine aB ?_|refine rtW ?_)
 exact⟨.inr rfl,Ent.b rfl⟩
def qN (L:Lib):Bool:=decide (L.ax.length≤8)&&decide (L.eds.length≤13)&&decide (L.dU.length≤60)&&decide (L.eQ.length≤60)&&(List.range L.ax.length).all (fun i=>pb (L.ax.getD i default))&&(List.range L.eds.length).all (fun i=>lC (L.eds.getD i default))
theorem C1 (L:Lib) (hw:L.ax.length≤9223372036854775807) (hz:∀w∈L.ax,kU w∧w.gK.length≤9223372036854775807) (he:L.eds.length≤9223372036854775807) (hs:L.dU.length≤9223372036854775807) (hl:L.eQ.length≤9223372036854775807):PCall Tryz.prog 13 [.agg (bq L)] (.b (qN L)):=by
 refine PCall.body Tryz.func13 rfl rfl Tryz.ntmps13 rfl rfl ?_
 repeat' (first|refine qT ?_|apply sqW|refine rgK fun U V=>?_|(refine aN V ?_;clear V U)|refine aB ?_|refine cX ?_ ?_<;>intro hc<;>try simp only[dE] at hc|refine blK ?_|refine skW ?_|refine rtW ?_)
 · refine⟨.inr rfl,Ent.b (Eq.symm ?_)⟩;have h9:(((decide ((L.ax.length:Int)>8)||decide ((L.eds.length:Int)>13))||decide ((L.dU.length:Int)>60))||decide ((L.eQ.length:Int)>60))=true:=hc;simp only[zC5,dEt] at h9;unfold qN;rcases h9 with ((h9|h9)|h9)|h9
   · rw[decide_eq_false (p:=L.ax.length≤8) oM];rfl
   · rw[decide_eq_false (p:=L.eds.length≤13) oM];simp
   · rw[decide_eq_false (p:=L.dU.length≤60) oM];simp
   · rw[decide_eq_false (p:=L.eQ.length≤60) oM];simp
 have tL:(decide (L.ax.length≤8)&&decide (L.eds.length≤13)&&decide (L.dU.length≤60)&&decide (L.eQ.length≤60))=true:=by
  have h9:(((decide ((L.ax.length:Int)>8)||decide ((L.eds.length:Int)>13))||decide ((L.dU.length:Int)>60))||decide ((L.eQ.length:Int)>60))=false:=hc;simp only[zAg,dEf] at h9;simp only[zA0,dEt];omega
 have dX:qN L=((List.range L.ax.length).all (fun i=>pb (L.ax.getD i default))&&(List.range L.eds.length).all (fun i=>lC (L.eds.getD i default))):=by
  unfold qN;rw[tL,zAy]
 clear hc tL;refine lpD (ι:=Nat) (fun k=>[(1,.ptr 0 0),(3,.int k)]) (fun _=>[.var (bq L)]) (fun k=>k≤L.ax.length∧∀j,j<k→pb (L.ax.getD j default)=true) (fun k=>L.ax.length - k) 1 (fun _=>rfl) 0 ⟨nZl _,fun j h=>absurd h oM⟩ ⟨rfl,rfl,tI⟩ rfl (fun _ _=>rfl) (fun _ _=>rfl) ?_;rintro k ⟨hk,au⟩;by_cases hlt:k<L.ax.length
 · obtain⟨w,hwk⟩:∃w,L.ax.getD k default=w:=⟨_,rfl⟩
   have hm:=hz w (hwk▸bD hlt);have hv:=C0 w hm.1 hm.2
   repeat' (first|refine qP ?_ (h:=fun hg=>by first|exact iX aU L.ax ((k:Nat):Int) hwk (hb:=oM)|exact aa|exact pc hv|exact af)|apply sqW|refine rgK fun U V=>?_|(refine aN V ?_;clear V U)|refine cX ?_ ?_<;>intro hc<;>try simp only[dE] at hc|refine blK ?_|refine exW ?_|refine skW ?_|refine rtW ?_)
   all_goals (first|exact dd|skip)
   · refine⟨.inr rfl,Ent.b (Eq.symm ?_)⟩;rw[dX,show(List.range L.ax.length).all (fun i=>pb (L.ax.getD i default))=false from zC6.2 ⟨k,zAs.2 hlt,by rw[hwk];simpa using hc⟩,zBu]
   · exact⟨k+1,⟨hlt,fun j hj=>aH au (by rw[hwk];simpa using hc) hj⟩,oM,⟨rfl,rfl,tI⟩,rfl⟩
 · obtain rfl:k=L.ax.length:=oM;have hW:(List.range L.ax.length).all (fun i=>pb (L.ax.getD i default))=true:=zA4.2 fun j hj=>au j (zAs.1 hj)
   rw[hW,zAy] at dX;clear au
   repeat' (first|refine qT ?_|apply sqW|refine rgK fun U V=>?_|(refine aN V ?_;clear V U)|refine cX ?_ ?_<;>intro hc<;>try simp only[dE] at hc|refine blK ?_|refine exW ?_|refine skW ?_)
   all_goals (first|exact dd|skip)
   refine lpD (ι:=Nat) (fun k=>[(1,.ptr 0 0),(5,.int k)]) (fun _=>[.var (bq L)]) (fun k=>k≤L.eds.length∧∀j,j<k→lC (L.eds.getD j default)=true) (fun k=>L.eds.length - k) 1 (fun _=>rfl) 0 ⟨nZl _,fun j h=>absurd h oM⟩ ⟨rfl,rfl,tI⟩ rfl (fun _ _=>rfl) (fun _ _=>rfl) ?_;rintro k ⟨hk,au⟩;by_cases hlt:k<L.eds.length
   · obtain⟨e,hek⟩:∃e,L.eds.getD k default=e:=⟨_,rfl⟩
     have hv:=Ed.xB e
     repeat' (first|refine qP ?_ (h:=fun hg=>by first|exact PRun.eq (v:=.iptr (Ed.aF (L.eds.getD ((k:Nat):Int).toNat default))) (piW ab rfl rfl nd rfl nd rfl rfl oM) (congrArg (fun x=>AV.iptr (Ed.aF x)) (show L.eds.getD ((k:Nat):Int).toNat default=e from hek))|exact aa|exact pc hv|exact af)|apply sqW|refine rgK fun U V=>?_|(refine aN V ?_;clear V U)|refine cX ?_ ?_<;>intro hc<;>try simp only[dE] at hc|refine blK ?_|refine exW ?_|refine skW ?_|refine rtW ?_)
     all_goals (first|exact dd|skip)
     · refine⟨.inr rfl,Ent.b (Eq.symm ?_)⟩;rw[dX,zC6];exact⟨k,zAs.2 hlt,by rw[hek];have h9:(!lC e)=true:=hc;simpa using h9⟩
     · exact⟨k+1,⟨hlt,fun j hj=>aH au (by rw[hek];have h9:(!lC e)=false:=hc;simpa using h9) hj⟩,oM,⟨rfl,rfl,tI⟩,rfl⟩
   · obtain rfl:k=L.eds.length:=oM
     repeat' (first|refine qT ?_|apply sqW|refine rgK fun U V=>?_|(refine aN V ?_;clear V U)|refine cX ?_ ?_<;>intro hc<;>try simp only[dE] at hc|refine blK ?_|refine exW ?_|refine skW ?_|refine rtW ?_)
     all_goals (first|exact dd|skip)
     refine⟨.inr rfl,Ent.b (Eq.symm ?_)⟩;rw[dX];exact zA4.2 fun j hj=>au j (zAs.1 hj)
def qO (L:Lib) (ds:List Dec) (l:List Std):Bool:=(oQ (bp L.ax) 0&&qo L.ax ds)&&zc L.eds&&tZ l&&qN L
theorem C2 (L:Lib) (hw:L.ax.length≤1000000000000) (hz:∀w∈L.ax,kU w∧w.gK.length≤9223372036854775807) (he:L.eds.length≤9223372036854775807) (hs:L.dU.length≤9223372036854775807) (hl:L.eQ.length≤9223372036854775807) (ds:List Dec) (hd:ds.length≤9223372036854775807) (l:List Std) (hll:l.length≤9223372036854775807) (hle:∀s∈l,s.evs.length≤9223372036854775807) :
 PCall Tryz.prog 5 [.agg (bq L),.sl 6 (ds.map bx) .no,.sl 7 (l.map aR) .no] (.b (qO L ds l)):=by
 have h1:=wm L.ax hw (fun w hm=>(hz w hm).1) ds hd;have h2:=Ag L.eds he;have h3:=Ah l hll hle;have h4:=C1 L oM hz he hs hl;refine PCall.body Tryz.func5 rfl rfl Tryz.ntmps5 rfl rfl ?_
 repeat' (first|refine qP ?_ (h:=fun hg=>by first|exact aa|exact pc h1|exact pc h2|exact pc h3|exact pc h4|fail)|apply sqW|refine rgK fun U V=>?_|(refine aN V ?_;clear V U)|refine aB ?_|refine rtW ?_)
 exact⟨.inr rfl,Ent.b rfl⟩
end Go.Proofs.YthiaimakjmhegaaGreatDoor.Top
