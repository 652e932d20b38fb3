/- Parts of the proof. No statement is proved here. -/
import Derived.Test.YthiaimakjmhegaaGreatDoorP37
import Derived.Test.YthiaimakjmhegaaGreatDoorP38
set_option linter.unusedVariables false
set_option linter.unusedSimpArgs false
set_option maxHeartbeats 16000000
set_option maxRecDepth 20000
namespace Go.Proofs.YthiaimakjmhegaaGreatDoor.Top
open Go.Ab Go.Jo Go.Sy Go.Pl Al Cy De Pl
attribute [local irreducible] AWP AOps EStep AQ PStep PRun PCall TCall VCall
def p17a:Part:=⟨1,0,0,0,1,⟨0,0⟩,⟨0,0,0⟩,⟨0,0,9⟩⟩
def p17b:Part:=⟨2,0,1,-1,1,⟨-1,-2⟩,⟨0,0,0⟩,⟨0,0,9⟩⟩
def n17:bk:=⟨7,1,5,0,0,⟨0,1⟩,⟨4,1⟩,⟨4,0,4⟩⟩
def s17:Score:=⟨1,[⟨5,⟨4,1⟩,0⟩],[p17a,p17b],[n17]⟩
theorem y8:PCall Tryz.prog 66 [] (.agg (bg s17)):=by
 refine PCall.bN ab Tryz.func66 rfl rfl Tryz.ntmps66 rfl ?_
 repeat' (first|refine qP ?_ (h:=fun hg=>by first|exact aa|exact pbD ab rfl rfl nds|exact pbS ab rfl rfl nds|fail)|apply sqW|refine rgK fun U V=>?_|(refine aN V ?_;clear V U)|refine aS ?_|refine aA ?_|refine rtW ?_)
 exact⟨.inr rfl,_,rfl,Ent.aggR ⟨Ent.bO _,Ent.slN,Ent.slN,Ent.slN,tI⟩⟩
def uS:List AV:=[.int 1,.sl 4 (s17.bars.map cS) .no,.sl 13 (s17.parts.map bz) .no,.sl 12 (s17.notes.map bQ) .no,.int 1,.nils,.nils,.int 0,.int 0,.int 0,.nils,.sl 3 [[.int 0,.int 1,.int 1]] .no]
def w17:aV:=⟨s17,⟨1,[],[],⟨0,0,0⟩,[]⟩,[⟨0,⟨1,1⟩⟩]⟩
theorem Hs:nr uS (aU w17):=⟨Ent.bO _,Ent.bO _,Ent.bO _,Ent.bO _,Ent.bO _,Ent.nil,Ent.nil,Ent.bO _,Ent.bO _,Ent.bO _,Ent.nil,Ent.slN,tI⟩
theorem CX:PCall Tryz.prog 23 [] (.agg [.sl 12 [uS] .no,.nils,.nils,.nils]):=by
 have h:=y8;refine PCall.bN ab Tryz.func23 rfl rfl Tryz.ntmps23 rfl ?_
 repeat' (first|refine qP ?_ (h:=fun hg=>by first|exact pc h|exact pbD ab rfl rfl nds|exact pbS ab rfl rfl nds|fail)|apply sqW|refine rgK fun U V=>?_|(refine aN V ?_;clear V U)|refine aS ?_|refine aA ?_|refine rtW ?_)
 exact⟨.inr rfl,_,rfl,Ent.of rfl⟩
def e17a:Ed.ah:=⟨1,1,[⟨1,5,0⟩],[]⟩
def e17b:Ed.ah:=⟨2,1,[⟨9,5,0⟩],[⟨⟨#[66]⟩,0⟩]⟩
def ns (id ed:Int):Std:=⟨id,⟨1,1,1⟩,ed,0,[]⟩
abbrev wL (id ed:Int):List AV:=[.int id,.int 1,.int 1,.int 1,.int ed,.int 0,.nils]
theorem y9 (id ed:Int):nr (wL id ed) (aR (ns id ed)):=⟨Ent.bO _,Ent.bO _,Ent.bO _,Ent.bO _,Ent.bO _,Ent.bO _,Ent.nil,tI⟩
theorem qt (id ed:Int):PCall Tryz.prog 24 [.int id,.int ed] (.agg (wL id ed)):=by
 refine PCall.bN ab Tryz.func24 rfl rfl Tryz.ntmps24 rfl ?_
 repeat' (first|refine qP ?_ (h:=fun hg=>by first|exact aa|exact pbD ab rfl rfl nds|fail)|apply sqW|refine rgK fun U V=>?_|(refine aN V ?_;clear V U)|refine aS ?_|refine aA ?_|refine rtW ?_)
 exact⟨.inr rfl,_,rfl,Ent.of rfl⟩
def l17:Lib:=⟨[w17],[e17a,e17b],[],[]⟩
def t17:List Std:=[ns 1 1,ns 2 2]
abbrev wM:List AV:=[.int 1,.int 1,.sl 3 [[.int 1,.int 5,.int 0]] .no,.nils]
abbrev wN:List AV:=[.int 2,.int 1,.sl 3 [[.int 9,.int 5,.int 0]] .no,.sl 2 [[.str ⟨#[66]⟩,.int 0]] .no]
theorem CY {a b c:Tok}:Ent (.tup [.agg [.sl 12 [uS] a,.sl 4 [wM,wN] c,.nils,.nils],.sl 7 [wL 1 1,wL 2 2] b]) (.tup [.agg (bq l17),.sl 7 (t17.map aR) .no]):=by
 refine Ent.jl (Ent.aggR ⟨Ent.slR ⟨Hs,tI⟩ ?_,Ent.slR ⟨⟨Ent.bO _,Ent.bO _,Ent.slN,Ent.nil,tI⟩,⟨Ent.bO _,Ent.bO _,Ent.slN,Ent.slN,tI⟩,tI⟩ ?_,Ent.nil,Ent.nil,tI⟩) (Ent.slR ⟨y9 1 1,y9 2 2,tI⟩ ?_)
 · intro e he;obtain⟨x,_,rfl⟩:=zAq.1 he;rfl
 · intro e he;obtain⟨x,_,rfl⟩:=zAq.1 he;rfl
 · intro e he;obtain⟨x,_,rfl⟩:=zAq.1 he;rfl
theorem Af:PCall Tryz.prog 8 [] (.tup [.agg (bq l17),.sl 7 (t17.map aR) .no]):=by
 have h:=CX;have q1:=qt 1 1;have q2:=qt 2 2;refine PCall.bN ab Tryz.func8 rfl rfl Tryz.ntmps8 rfl ?_
 repeat' (first|refine qP ?_ (h:=fun hg=>by first|exact aa|exact pc h|exact pbD ab rfl rfl nds|exact pbS ab rfl rfl nds|fail)|apply sqW|refine rgK fun U V=>?_|(refine aN V ?_;clear V U)|refine aS ?_|refine aA ?_)
 refine AWP.dZ (fun j=>match j with|0=>[.var [.nils,.nils,.nils,.nils],.var [.sl 12 [uS] .no,.sl 4 [wM,wN] .fresh,.nils,.nils]]|_=>[.var [.sl 12 [uS] .no,.sl 4 [wM,wN] .fresh,.nils,.nils],.var [.sl 12 [uS] .no,.sl 4 [wM,wN] .fresh,.nils,.nils]]) rfl (by kernel_rfl) dKn rfl dKn (fun U V=>?_)
 repeat' (first
  |refine yt (h:=by refine⟨?_,?_,?_,?_⟩<;>intro hh hg<;>first|exact absurd hh dKn|exact aa|exact pc q1|exact pc q2|exact pbS ab rfl rfl nds|exact af|fail) (hk:=?_)|fail)
 refine YQ.e (v:=.any) (d:=none) rfl rfl rfl ?_ ?_
 · intro aw he;exact stW ab rfl rfl ((ai (he 0 dKn)).trans rfl) (by rw[aj (he 0 dKn)];first|exact tI|exact rfl) rfl ((ai (he 14 dKn)).trans rfl) (by rw[aj (he 14 dKn)];first|exact tI|exact rfl) rfl rfl rfl rfl rfl rfl rfl ⟨rfl,rfl⟩
 repeat' (first
  |refine yt (h:=by refine⟨?_,?_,?_,?_⟩<;>intro hh hg<;>first|exact absurd hh dKn|exact aa|exact pc q1|exact pc q2|exact pbS ab rfl rfl nds|exact af|fail) (hk:=?_)|fail)
 refine YQ.nil (V _ _ ?_);clear V U
 repeat' (first|refine rtW ?_)
 exact⟨.inr rfl,_,rfl,CY⟩
end Go.Proofs.YthiaimakjmhegaaGreatDoor.Top
namespace Go.Proofs.YthiaimakjmhegaaGreatDoor.Top
open Go.Ab Go.Jo Go.Sy Go.Pl Al Cy De Pl
attribute [local irreducible] AWP AOps EStep AQ PStep PRun PCall TCall VCall
def qu:Pl.Call:=⟨⟨#[]⟩,1,0,⟨5,2⟩,0⟩
def Ht:Pl.Call:=⟨⟨#[66]⟩,0,0,⟨5,2⟩,0⟩
def m17:Mom:=⟨5,1,⟨5,2⟩⟩
def x17:List (Mom×Int):=[(m17,0),(cJ,4)]
theorem za:fW l17:=⟨by decide,fun w hw=>by rcases zA9.1 hw with rfl;exact⟨⟨by decide,by decide,by decide⟩,⟨by decide,by decide,by decide⟩⟩,by decide,by decide,fun e he=>by
 rcases zAo.1 he with rfl|he
 · exact⟨by decide,by decide,by decide⟩
 · rcases zA9.1 he with rfl;exact⟨by decide,by decide,by decide⟩,by decide,by decide⟩
theorem JG:sH t17:=⟨by decide,fun s hs=>by
 rcases zAo.1 hs with rfl|hs
 · exact⟨(fun e he=>by cases he),by decide⟩
 · rcases zA9.1 hs with rfl;exact⟨(fun e he=>by cases he),by decide⟩⟩
theorem H5:er l17 [] t17 3 qu=0:=dKn
theorem L7:cI l17.ax l17.eds [] (ns 1 1) 3 qu=(m17,0):=by kernel_rfl
theorem L8:cI l17.ax l17.eds [] (ns 2 2) 3 qu=(cJ,4):=by kernel_rfl
theorem L9:cI l17.ax l17.eds [] (ns 2 2) 3 Ht=(m17,0):=by kernel_rfl
theorem KB:jX l17 [] t17 3 qu=x17:=by
 unfold jX;rw[if_pos H5];show[cI l17.ax l17.eds [] (ns 1 1) 3 qu,cI l17.ax l17.eds [] (ns 2 2) 3 qu]=_;rw[L7,L8];rfl
theorem zb:PCall Tryz.prog 6 [.agg (bq l17),.nils,.sl 7 (t17.map aR) .no,.int 3,.agg (bw qu)] (.tup [.sl 4 (mA x17) .no,.sl 1 (eA x17) .no,.int 0]):=by
 have h:=lB l17 za [] dCd t17 JG 3 qu dCd;rw[KB,H5] at h;refine PCall.argR ?_ h;exact⟨Ent.bO _,Ent.nil,Ent.bO _,Ent.bO _,Ent.bO _,tI⟩
theorem CZ:PCall Tryz.prog 9 [.sl 12 (l17.ax.map aU) .no,.sl 4 (l17.eds.map Ed.aF) .no,.nils,.agg (aR (ns 2 2)),.int 3,.agg (bw Ht)] (.tup [.agg (bA m17),.int 0]):=by
 have h:=mM l17.ax za.wl za.ws l17.eds za.el za.es [] dCd (ns 2 2) (fun e he=>by cases he) dCd 3 Ht dCd;rw[L9] at h;refine PCall.argR ?_ h;exact⟨Ent.bO _,Ent.bO _,Ent.nil,Ent.bO _,Ent.bO _,Ent.bO _,tI⟩
theorem wy:PCall Tryz.prog 4 [] (.b true):=by
 have h1:=Af;have h2:=zb;have h3:=CZ;refine PCall.body Tryz.func4 rfl rfl Tryz.ntmps4 rfl rfl ?_
 repeat' (first|refine qP ?_ (h:=fun hg=>by first|exact aa|exact pc h1|exact pbD ab rfl rfl nds|exact pc h2|fail)|apply sqW|refine rgK fun U V=>?_|(refine aN V ?_;clear V U)|refine aS ?_|refine aA ?_)
 refine AWP.dZ (fun j=>match j with|0=>[.var (bq l17),.var [.int 5,.int 2]]|1=>[.var (bq l17),.var [.int 5,.int 2],.var (bA cJ)]|_=>[.var (bq l17),.var [.int 5,.int 2],.var (bA m17)]) rfl (by kernel_rfl) dKn rfl dKn (fun U V=>?_)
 repeat' (first
  |refine yt (h:=by refine⟨?_,?_,?_,?_⟩<;>intro hh hg<;>first|exact absurd hh dKn|exact aa|exact pc h3|exact pbD ab rfl rfl nds|exact piW (l:=t17) (f:=aR) ab rfl rfl nd rfl nd rfl rfl ⟨by decide,by decide⟩|exact af|fail) (hk:=?_)|fail)
 refine YQ.e (v:=.ptr 2 0) (d:=some 7) rfl rfl rfl ?_ ?_
 · intro aw he;exact alW ab rfl rfl rfl rfl rfl rfl ⟨rfl,rfl⟩
 repeat' (first
  |refine yt (h:=by refine⟨?_,?_,?_,?_⟩<;>intro hh hg<;>first|exact absurd hh dKn|exact aa|exact pc h3|exact pbD ab rfl rfl nds|exact piW (l:=t17) (f:=aR) ab rfl rfl nd rfl nd rfl rfl ⟨by decide,by decide⟩|exact af|fail) (hk:=?_)|fail)
 refine YQ.e (v:=.any) (d:=none) rfl rfl rfl ?_ ?_
 · intro aw he;exact stW ab rfl rfl ((ai (he 7 dKn)).trans rfl) (by rw[aj (he 7 dKn)];first|exact tI|exact rfl) rfl ((ai (he 34 dKn)).trans rfl) (by rw[aj (he 34 dKn)];first|exact tI|exact rfl) rfl rfl rfl rfl rfl rfl rfl ⟨rfl,rfl⟩
 repeat' (first
  |refine yt (h:=by refine⟨?_,?_,?_,?_⟩<;>intro hh hg<;>first|exact absurd hh dKn|exact aa|exact pc h3|exact pbD ab rfl rfl nds|exact piW (l:=t17) (f:=aR) ab rfl rfl nd rfl nd rfl rfl ⟨by decide,by decide⟩|exact af|fail) (hk:=?_)|fail)
 refine YQ.nil (V _ _ ?_);clear V U
 repeat' (first|refine qT ?_|apply sqW|refine rgK fun U V=>?_|(refine aN V ?_;clear V U)|refine cX ?_ ?_<;>intro hc<;>try simp only[dE] at hc|refine skW ?_|refine rtW ?_|refine kD fun U V=>?_|(refine aqN (V _ ?_);clear V U)|refine aqQ rfl rfl (fun hg=>by first|exact aa|exact pbD ab rfl rfl nds|exact piW (l:=x17) (f:=m1) ab rfl rfl nd rfl nd rfl rfl ⟨by decide,by decide⟩|exact piW (l:=x17) (f:=e1) ab rfl rfl nd rfl nd rfl rfl ⟨by decide,by decide⟩|exact PRun.eqN pa rfl rfl nd rfl nd rfl|fail) (by exact rfl) ?_)
 all_goals first|exact⟨.inr rfl,Ent.b rfl⟩|(exfalso;simp[x17] at hc;done)
end Go.Proofs.YthiaimakjmhegaaGreatDoor.Top
