/- Parts of the proof. No statement is proved here. -/
import Derived.Test.YthiaimakjmhegaaGreatDoorP35
import Derived.Test.YthiaimakjmhegaaGreatDoorP36
set_option linter.unusedVariables false
set_option linter.unusedSimpArgs false
set_option maxHeartbeats 16000000
set_option maxRecDepth 20000
namespace Go.Proofs.YthiaimakjmhegaaGreatDoor.Top
open Go.Ab Go.Jo Go.Sy Go.Pl Al Cy De Pl
attribute [local irreducible] AWP AOps EStep AQ PStep PRun PCall TCall VCall
theorem pa:mq Tryz.prog 49=some [.int .i64,.int .i64,.int .i64,.int .i64]:=by kernel_rfl
abbrev m1 (r:Mom×Int):List AV:=bA r.1
abbrev e1 (r:Mom×Int):List AV:=[AV.int r.2]
abbrev zCa:List AV:=[.str ⟨#[]⟩,.int 0,.int 0,.int 0,.int 0,.int 0]
abbrev zRo:List AV:=[.int 0,.int 0,.nils,.nils,.int 0,.int 0,.int 0,.nils,.nils]
theorem sJ (L:Lib) (ds:List Dec) (l:List Std) (time:Int) (c:Pl.Call) {j:Nat} (hj:j<l.length):(gm L ds l time c).getD j (cJ,0)=cI L.ax L.eds ds (l.getD j default) time c:=by
 unfold gm;simp[List.getD,hj]
instance:Inhabited (Mom×Int):=⟨(cJ,0)⟩
theorem Hq (L:Lib) (h:fW L) (ds:List Dec) (hd:ds.length≤1000000000) (l:List Std) (hs:sH l) (time:Int) (c:Pl.Call) (hcl:c.letter.size≤9223372036854775807) (h0:er L ds l time c=0) (k:Nat) (hk:k<l.length) (hno:(cI L.ax L.eds ds (l.getD k default) time c).2≠0) :
 PCall Tryz.prog 7 [.agg (bq L),.sl 6 (ds.map bx) .no,.sl 7 (l.map aR) .no,.int time,.int (k:Nat),.agg (bw c)] (.b true):=by
 have hc0:=lB L h ds hd l hs time c hcl;have hm:=Fj hno;have hg:=sJ L ds l time c hk;have hX:(gm L ds l time c).length=l.length:=by simp[gm]
 unfold jX at hc0;rw[if_pos h0,h0] at hc0;generalize cI L.ax L.eds ds (l.getD k default) time c=W at *;generalize gm L ds l time c=X at *;obtain⟨m,e⟩:=W;have hm:m=cJ:=hm;have hno:e≠0:=hno;subst hm;have hx:X.getD k default=(cJ,e):=hg;have hkX:k<X.length:=oM;refine PCall.body Tryz.func7 rfl rfl Tryz.ntmps7 rfl rfl ?_
 repeat' (first|refine qP ?_ (h:=fun hg=>by first|exact iX e1 X ((k:Nat):Int) hx (hb:=oM)|exact iX m1 X ((k:Nat):Int) hx (hb:=oM)|exact aa|exact pc hc0|exact pbD ab rfl rfl nds|exact PRun.eqN pa rfl rfl nd rfl nd rfl|exact af)|apply sqW|refine rgK fun U V=>?_|(refine aN V ?_;clear V U)|refine aB ?_|refine cX ?_ ?_<;>intro hc<;>try simp only[dE] at hc|refine skW ?_|refine rtW ?_)
 · exfalso;rw[hX] at hc;simp at hc
 · exact⟨.inr rfl,Ent.b rfl⟩
 · exfalso;rw[show(e != 0)=true from by simp[hno]] at hc;cases hc
theorem JE {ws:List aV} {v:Int} {k:Nat} (h:fg (bp ws) v=k) (hk:k<ws.length):gS ws v=k:=by
 obtain⟨k',e1,e2,e3,e4⟩:=bY (p:=fun x:Score=>x.version==v) (l:=bp ws) (by have:fg (bp ws) v=az (fun x:Score=>x.version==v) (bp ws):=rfl;omega);have ek:k'=k:=by have:fg (bp ws) v=az (fun x:Score=>x.version==v) (bp ws):=rfl;omega
 subst ek;have hs:∀j,j<ws.length→(bp ws).getD j default=(ws.getD j default).score:=fun j hj=>by unfold bp;simp[List.getD,hj]
 refine bP (p:=fJ v) hk ?_ fun j hj=>?_
 · rw[hs k' hk] at e3;exact e3
 · have:=e4 j hj;rw[hs j oM] at this;exact this
end Go.Proofs.YthiaimakjmhegaaGreatDoor.Top
namespace Go.Ab
def nO:Code→Option Code
 |.loop c=>some c
 |.seq a b=>match nO a with|some c=>some c|none=>nO b
 |.cond _ a b=>match nO a with|some c=>some c|none=>nO b
 |.block _ c=>nO c
 |_=>none
end Go.Ab
namespace Go.Proofs.YthiaimakjmhegaaGreatDoor.Top
open Go.Ab Go.Jo Go.Sy Go.Pl Al Cy De Pl
attribute [local irreducible] AWP AOps EStep AQ PStep PRun PCall TCall VCall
noncomputable def nP:Code:=((Tryz.f7.body).bind nO).getD .skip
abbrev agE (ds:List Dec) (l:List Std) (time:Int) (k:Nat) (X:List (Mom×Int)) (j:Nat):List (Nat×AV):=[(1,.sl 6 (ds.map bx) .no),(2,.sl 7 (l.map aR) .no),(3,.int time),(4,.int k),(6,.ptr 0 0),(11,.ptr 1 0),(13,.sl 4 (mA X) .no),(14,.sl 1 (eA X) .no),(16,.ptr 2 0),(18,.ptr 3 0),(105,.sl 7 (l.map aR) .no),(106,.int l.length),(107,.int j)]
abbrev agS (L:Lib) (c:Pl.Call) (r:Room) (sc:Score):ae:=[.var (bq L),.var (bw c),.var (De.bt r),.var (bg sc)]
theorem Hr {L:Lib} {ds:List Dec} {l:List Std} {time:Int} {k:Nat} {c:Pl.Call} {X:List (Mom×Int)} {r r2:Room} {sc:Score} {s t:Std} {M:Mom} {j:Nat} (hl9:l.length≤1000000000) (hX:X.length=l.length) (hk:k<l.length) (hlt:j<l.length) (hsk:l.getD k default=s) (ht:l.getD j default=t)
 (hA2:PCall Tryz.prog 18 [.sl 12 (L.ax.map aU) .no,.sl 6 (ds.map bx) .no,.int t.known,.int time] (.tup [.agg (De.bt r2),.int 0])) (hkb:(t.known != s.known)=true) {K:Exit→Env→ae→Prop} :
 AWP Tryz.prog 212 nP (kq (fun e σ=>∃i,i≤l.length∧l.length - i<l.length - j∧fe e (agE ds l time k X i)∧σ.take 4=agS L c r sc) K) (Env.of (agE ds l time k X j)) (agS L c r sc):=by
 repeat' (first|refine qP ?_ (h:=fun hg=>by first|exact iX aR l ((j:Nat):Int) ht (hb:=oM)|exact aa|exact pc hA2|fail)|apply sqW|refine rgK fun U V=>?_|(refine aN V ?_;clear V U)|refine aS ?_|refine aA ?_|refine cX ?_ ?_<;>intro hc<;>try simp only[dE] at hc|refine blK ?_|refine exW ?_|refine skW ?_|refine rtW ?_|refine kD fun U V=>?_|(refine aqN (V _ ?_);clear V U)|refine aqQ rfl rfl (fun hg=>by first|exact PRun.eq (v:=.b (t.known != s.known)) (PRun.cZ rfl rfl nd rfl nd rfl) (show AV.b (t.known != s.known)=AV.b true from congrArg AV.b hkb)|exact iX aR l ((k:Nat):Int) hsk (hb:=oM)|exact aa|exact af) (by exact rfl) ?_)
 all_goals (first|(exfalso;omega)|(exfalso;simp at hc;done)|(rename_i h7;exfalso;simp at h7;done)|skip)
 exact⟨j+1,oM,oM,⟨rfl,rfl,rfl,rfl,rfl,rfl,rfl,rfl,rfl,rfl,rfl,rfl,rfl,tI⟩,rfl⟩
end Go.Proofs.YthiaimakjmhegaaGreatDoor.Top
namespace Go.Proofs.YthiaimakjmhegaaGreatDoor.Top
open Go.Ab Go.Jo Go.Sy Go.Pl Al Cy De Pl
attribute [local irreducible] AWP AOps EStep AQ PStep PRun PCall TCall VCall
theorem JF {L:Lib} {ds:List Dec} {l:List Std} {time:Int} {k:Nat} {c:Pl.Call} {X:List (Mom×Int)} {r r2:Room} {sc:Score} {s t:Std} {M:Mom} {j:Nat} (hl9:l.length≤1000000000) (hX:X.length=l.length) (hk:k<l.length) (hlt:j<l.length) (hsk:l.getD k default=s) (ht:l.getD j default=t)
 (hA2:PCall Tryz.prog 18 [.sl 12 (L.ax.map aU) .no,.sl 6 (ds.map bx) .no,.int t.known,.int time] (.tup [.agg (De.bt r2),.int 0])) (hkb:(t.known != s.known)=false) (iz:(t.ed==s.ed)=false) {Y:Mom×Int} (hY:Y.2=4) (hxj:X.getD j default=Y) {E:List AV} (hE:PCall Tryz.prog 21 [.sl 4 (L.eds.map Ed.aF) .no,.int t.ed] (.tup [.agg E,.b false])) (hEl:E=zEd) {K:Exit→Env→ae→Prop} :
 AWP Tryz.prog 212 nP (kq (fun e σ=>∃i,i≤l.length∧l.length - i<l.length - j∧fe e (agE ds l time k X i)∧σ.take 4=agS L c r sc) K) (Env.of (agE ds l time k X j)) (agS L c r sc):=by
 subst hEl;obtain⟨Ym,Ye⟩:=Y;obtain rfl:Ye=4:=hY
 repeat' (first|refine qP ?_ (h:=fun hg=>by first|exact iX e1 X ((j:Nat):Int) hxj (hb:=oM)|exact iX aR l ((j:Nat):Int) ht (hb:=oM)|exact aa|exact pc hA2|exact pc hE|fail)|apply sqW|refine rgK fun U V=>?_|(refine aN V ?_;clear V U)|refine aS ?_|refine aA ?_|refine cX ?_ ?_<;>intro hc<;>try simp only[dE] at hc|refine blK ?_|refine exW ?_|refine skW ?_|refine rtW ?_|refine kD fun U V=>?_|(refine aqN (V _ ?_);clear V U)|refine aqQ rfl rfl (fun hg=>by first|exact iX e1 X ((j:Nat):Int) hxj (hb:=oM)|exact PRun.eq (v:=.b (t.ed==s.ed)) (PRun.cZ rfl rfl nd rfl nd rfl) (show AV.b (t.ed==s.ed)=AV.b false from congrArg AV.b iz)|exact PRun.eq (v:=.b (t.known != s.known)) (PRun.cZ rfl rfl nd rfl nd rfl) (show AV.b (t.known != s.known)=AV.b false from congrArg AV.b hkb)|exact iX aR l ((k:Nat):Int) hsk (hb:=oM)|exact aa|exact(Bool.noConfusion (show false=true from hg):PRun _ _ _ _ (.b false))|fail) (by exact rfl) ?_)
 all_goals (first|(exfalso;omega)|(exfalso;simp at hc;done)|(rename_i h7;exfalso;simp at h7;done)|skip)
 exact⟨j+1,oM,oM,⟨rfl,rfl,rfl,rfl,rfl,rfl,rfl,rfl,rfl,rfl,rfl,rfl,rfl,tI⟩,rfl⟩
end Go.Proofs.YthiaimakjmhegaaGreatDoor.Top
namespace Go.Proofs.YthiaimakjmhegaaGreatDoor.Top
open Go.Ab Go.Jo Go.Sy Go.Pl Al Cy De Pl
attribute [local irreducible] AWP AOps EStep AQ PStep PRun PCall TCall VCall
theorem CV {L:Lib} {ds:List Dec} {l:List Std} {time:Int} {k:Nat} {c:Pl.Call} {X:List (Mom×Int)} {r r2:Room} {sc:Score} {s t:Std} {M:Mom} {j:Nat} (hl9:l.length≤1000000000) (hX:X.length=l.length) (hk:k<l.length) (hlt:j<l.length) (hsk:l.getD k default=s) (ht:l.getD j default=t)
 (hA2:PCall Tryz.prog 18 [.sl 12 (L.ax.map aU) .no,.sl 6 (ds.map bx) .no,.int t.known,.int time] (.tup [.agg (De.bt r2),.int 0])) (hx:X.getD k default=(M,0)) (hkb:(t.known != s.known)=false) (iz:(t.ed==s.ed)=true) (hxj:X.getD j default=(M,0)) {ed:Ed.ah} (hE:PCall Tryz.prog 21 [.sl 4 (L.eds.map Ed.aF) .no,.int t.ed] (.tup [.agg (Ed.aF ed),.b true]))
 (hL:PCall Tryz.prog 22 [.agg (bg sc),.agg (Ed.aF ed),.agg (De.bt r2),.agg (bA M)] (.tup [.agg (bw fa),.b false,.int 0])) {K:Exit→Env→ae→Prop} :
 AWP Tryz.prog 212 nP (kq (fun e σ=>∃i,i≤l.length∧l.length - i<l.length - j∧fe e (agE ds l time k X i)∧σ.take 4=agS L c r sc) K) (Env.of (agE ds l time k X j)) (agS L c r sc):=by
 have hkX:k<X.length:=oM;have hjX:j<X.length:=oM
 repeat' (first|refine qP ?_ (h:=fun hg=>by first|exact iX e1 X ((j:Nat):Int) hxj (hb:=oM)|exact iX aR l ((j:Nat):Int) ht (hb:=oM)|exact aa|exact pc hA2|exact pc hE|fail)|apply sqW|refine rgK fun U V=>?_|(refine aN V ?_;clear V U)|refine aS ?_|refine aA ?_|refine cX ?_ ?_<;>intro hc<;>try simp only[dE] at hc|refine blK ?_|refine exW ?_|refine skW ?_|refine rtW ?_|refine kD fun U V=>?_|(refine aqN (V _ ?_);clear V U)|refine aqQ rfl rfl (fun hg=>by first|exact iX m1 X ((k:Nat):Int) hx (hb:=oM)|exact iX m1 X ((j:Nat):Int) hxj (hb:=oM)|exact iX e1 X ((j:Nat):Int) hxj (hb:=oM)|exact PRun.eq (v:=.b (t.ed==s.ed)) (PRun.cZ rfl rfl nd rfl nd rfl) (show AV.b (t.ed==s.ed)=AV.b true from congrArg AV.b iz)|exact PRun.eq (v:=.b (t.known != s.known)) (PRun.cZ rfl rfl nd rfl nd rfl) (show AV.b (t.known != s.known)=AV.b false from congrArg AV.b hkb)|exact iX aR l ((k:Nat):Int) hsk (hb:=oM)|exact aa|exact PRun.neN pa rfl rfl nd rfl nd rfl|fail) (by exact rfl) ?_)
 all_goals (first|(exfalso;omega)|(exfalso;simp at hc;done)|(rename_i h7;exfalso;simp at h7;done)|skip)
 refine AWP.dZ (fun j=>match j with|0=>[.var (bq L),.var (bw c),.var (De.bt r),.var (bg sc),.var (aR t),.var (De.bt r2),.var (Ed.aF ed)]|1=>[.var (bq L),.var (bw c),.var (De.bt r),.var (bg sc),.var (aR t),.var (De.bt r2),.var (Ed.aF ed)]++[.var zCa]|_=>[.var (bq L),.var (bw c),.var (De.bt r),.var (bg sc),.var (aR t),.var (De.bt r2),.var (Ed.aF ed)]++[.var (bw fa)]) rfl (by kernel_rfl) dKn rfl dKn (fun U V=>?_)
 repeat' (first
  |refine yt (h:=by refine⟨?_,?_,?_,?_⟩<;>intro hh hg<;>first|exact absurd hh dKn|exact iX m1 X ((k:Nat):Int) hx (hb:=oM)|exact aa|exact pc hL|exact af|fail) (hk:=?_)|fail)
 refine YQ.e (v:=.ptr 7 0) (d:=some 26) rfl rfl rfl ?_ ?_
 · intro aw he;exact alW ab rfl rfl rfl rfl rfl rfl ⟨rfl,rfl⟩
 repeat' (first
  |refine yt (h:=by refine⟨?_,?_,?_,?_⟩<;>intro hh hg<;>first|exact absurd hh dKn|exact iX m1 X ((k:Nat):Int) hx (hb:=oM)|exact aa|exact pc hL|exact af|fail) (hk:=?_)|fail)
 refine YQ.e (v:=.any) (d:=none) rfl rfl rfl ?_ ?_
 · intro aw he;exact stW ab rfl rfl ((ai (he 26 dKn)).trans rfl) (by rw[aj (he 26 dKn)];first|exact tI|exact rfl) rfl ((ai (he 182 dKn)).trans rfl) (by rw[aj (he 182 dKn)];first|exact tI|exact rfl) rfl rfl rfl rfl rfl rfl rfl ⟨rfl,rfl⟩
 repeat' (first
  |refine yt (h:=by refine⟨?_,?_,?_,?_⟩<;>intro hh hg<;>first|exact absurd hh dKn|exact iX m1 X ((k:Nat):Int) hx (hb:=oM)|exact aa|exact pc hL|exact af|fail) (hk:=?_)|fail)
 refine YQ.nil (V _ _ ?_);clear V U
 repeat' (first|refine qS ?_|apply sqW|refine rgK fun U V=>?_|(refine aN V ?_;clear V U)|refine cX ?_ ?_<;>intro hc<;>try simp only[dE] at hc|refine exW ?_|refine skW ?_|refine rtW ?_)
 all_goals (first|(exfalso;omega)|(exfalso;simp at hc;done)|(rename_i h7;exfalso;simp at h7;done)|skip)
 exact⟨j+1,oM,oM,⟨rfl,rfl,rfl,rfl,rfl,rfl,rfl,rfl,rfl,rfl,rfl,rfl,rfl,tI⟩,rfl⟩
end Go.Proofs.YthiaimakjmhegaaGreatDoor.Top
namespace Go.Proofs.YthiaimakjmhegaaGreatDoor.Top
open Go.Ab Go.Jo Go.Sy Go.Pl Al Cy De Pl
attribute [local irreducible] AWP AOps EStep AQ PStep PRun PCall TCall VCall
theorem Ad {L:Lib} {ds:List Dec} {l:List Std} {time:Int} {k:Nat} {c:Pl.Call} {X:List (Mom×Int)} {r r2:Room} {sc:Score} {s t:Std} {M:Mom} {j:Nat} (hl9:l.length≤1000000000) (hX:X.length=l.length) (hk:k<l.length) (hlt:j<l.length) (hsk:l.getD k default=s) (ht:l.getD j default=t)
 (hA2:PCall Tryz.prog 18 [.sl 12 (L.ax.map aU) .no,.sl 6 (ds.map bx) .no,.int t.known,.int time] (.tup [.agg (De.bt r2),.int 0])) (hx:X.getD k default=(M,0)) (hkb:(t.known != s.known)=false) (iz:(t.ed==s.ed)=true) (hxj:X.getD j default=(M,0)) {ed:Ed.ah} (hE:PCall Tryz.prog 21 [.sl 4 (L.eds.map Ed.aF) .no,.int t.ed] (.tup [.agg (Ed.aF ed),.b true])) {d:Pl.Call}
 (hL:PCall Tryz.prog 22 [.agg (bg sc),.agg (Ed.aF ed),.agg (De.bt r2),.agg (bA M)] (.tup [.agg (bw d),.b true,.int 0])) (hQ:PCall Tryz.prog 9 [.sl 12 (L.ax.map aU) .no,.sl 4 (L.eds.map Ed.aF) .no,.sl 6 (ds.map bx) .no,.agg (aR t),.int time,.agg (bw d)] (.tup [.agg (bA M),.int 0])) {K:Exit→Env→ae→Prop} :
 AWP Tryz.prog 212 nP (kq (fun e σ=>∃i,i≤l.length∧l.length - i<l.length - j∧fe e (agE ds l time k X i)∧σ.take 4=agS L c r sc) K) (Env.of (agE ds l time k X j)) (agS L c r sc):=by
 have hkX:k<X.length:=oM;have hjX:j<X.length:=oM
 repeat' (first|refine qP ?_ (h:=fun hg=>by first|exact iX e1 X ((j:Nat):Int) hxj (hb:=oM)|exact iX aR l ((j:Nat):Int) ht (hb:=oM)|exact aa|exact pc hA2|exact pc hE|fail)|apply sqW|refine rgK fun U V=>?_|(refine aN V ?_;clear V U)|refine aS ?_|refine aA ?_|refine cX ?_ ?_<;>intro hc<;>try simp only[dE] at hc|refine blK ?_|refine exW ?_|refine skW ?_|refine rtW ?_|refine kD fun U V=>?_|(refine aqN (V _ ?_);clear V U)|refine aqQ rfl rfl (fun hg=>by first|exact iX m1 X ((k:Nat):Int) hx (hb:=oM)|exact iX m1 X ((j:Nat):Int) hxj (hb:=oM)|exact iX e1 X ((j:Nat):Int) hxj (hb:=oM)|exact PRun.eq (v:=.b (t.ed==s.ed)) (PRun.cZ rfl rfl nd rfl nd rfl) (show AV.b (t.ed==s.ed)=AV.b true from congrArg AV.b iz)|exact PRun.eq (v:=.b (t.known != s.known)) (PRun.cZ rfl rfl nd rfl nd rfl) (show AV.b (t.known != s.known)=AV.b false from congrArg AV.b hkb)|exact iX aR l ((k:Nat):Int) hsk (hb:=oM)|exact aa|exact PRun.neN pa rfl rfl nd rfl nd rfl|fail) (by exact rfl) ?_)
 all_goals (first|(exfalso;omega)|(exfalso;simp at hc;done)|(rename_i h7;exfalso;simp at h7;done)|skip)
 refine AWP.dZ (fun j=>match j with|0=>[.var (bq L),.var (bw c),.var (De.bt r),.var (bg sc),.var (aR t),.var (De.bt r2),.var (Ed.aF ed)]|1=>[.var (bq L),.var (bw c),.var (De.bt r),.var (bg sc),.var (aR t),.var (De.bt r2),.var (Ed.aF ed)]++[.var zCa]|_=>[.var (bq L),.var (bw c),.var (De.bt r),.var (bg sc),.var (aR t),.var (De.bt r2),.var (Ed.aF ed)]++[.var (bw d)]) rfl (by kernel_rfl) dKn rfl dKn (fun U V=>?_)
 repeat' (first
  |refine yt (h:=by refine⟨?_,?_,?_,?_⟩<;>intro hh hg<;>first|exact absurd hh dKn|exact iX m1 X ((k:Nat):Int) hx (hb:=oM)|exact aa|exact pc hL|exact af|fail) (hk:=?_)|fail)
 refine YQ.e (v:=.ptr 7 0) (d:=some 26) rfl rfl rfl ?_ ?_
 · intro aw he;exact alW ab rfl rfl rfl rfl rfl rfl ⟨rfl,rfl⟩
 repeat' (first
  |refine yt (h:=by refine⟨?_,?_,?_,?_⟩<;>intro hh hg<;>first|exact absurd hh dKn|exact iX m1 X ((k:Nat):Int) hx (hb:=oM)|exact aa|exact pc hL|exact af|fail) (hk:=?_)|fail)
 refine YQ.e (v:=.any) (d:=none) rfl rfl rfl ?_ ?_
 · intro aw he;exact stW ab rfl rfl ((ai (he 26 dKn)).trans rfl) (by rw[aj (he 26 dKn)];first|exact tI|exact rfl) rfl ((ai (he 182 dKn)).trans rfl) (by rw[aj (he 182 dKn)];first|exact tI|exact rfl) rfl rfl rfl rfl rfl rfl rfl ⟨rfl,rfl⟩
 repeat' (first
  |refine yt (h:=by refine⟨?_,?_,?_,?_⟩<;>intro hh hg<;>first|exact absurd hh dKn|exact iX m1 X ((k:Nat):Int) hx (hb:=oM)|exact aa|exact pc hL|exact af|fail) (hk:=?_)|fail)
 refine YQ.nil (V _ _ ?_);clear V U
 repeat' (first|refine qP ?_ (h:=fun hg=>by first|exact aa|exact pc hQ|fail)|apply sqW|refine rgK fun U V=>?_|(refine aN V ?_;clear V U)|refine aS ?_|refine aA ?_|refine cX ?_ ?_<;>intro hc<;>try simp only[dE] at hc|refine exW ?_|refine skW ?_|refine rtW ?_|refine kD fun U V=>?_|(refine aqN (V _ ?_);clear V U)|refine aqQ rfl rfl (fun hg=>by first|exact iX m1 X ((k:Nat):Int) hx (hb:=oM)|exact aa|exact PRun.neN pa rfl rfl nd rfl nd rfl|fail) (by exact rfl) ?_)
 all_goals (first|(exfalso;omega)|(exfalso;simp at hc;done)|(rename_i h7;exfalso;simp at h7;done)|skip)
 all_goals first|(exfalso;simp at hc;omega)|exact⟨j+1,oM,oM,⟨rfl,rfl,rfl,rfl,rfl,rfl,rfl,rfl,rfl,rfl,rfl,rfl,rfl,tI⟩,rfl⟩
end Go.Proofs.YthiaimakjmhegaaGreatDoor.Top
namespace Go.Proofs.YthiaimakjmhegaaGreatDoor.Top
open Go.Ab Go.Jo Go.Sy Go.Pl Al Cy De Pl
attribute [local irreducible] AWP AOps EStep AQ PStep PRun PCall TCall VCall
theorem CW {L:Lib} {ds:List Dec} {l:List Std} {time:Int} {k:Nat} {c:Pl.Call} {X:List (Mom×Int)} {r r2:Room} {sc:Score} {s t:Std} {M:Mom} {j:Nat} (hl9:l.length≤1000000000) (hX:X.length=l.length) (hk:k<l.length) (hlt:j<l.length) (hsk:l.getD k default=s) (ht:l.getD j default=t)
 (hA2:PCall Tryz.prog 18 [.sl 12 (L.ax.map aU) .no,.sl 6 (ds.map bx) .no,.int t.known,.int time] (.tup [.agg (De.bt r2),.int 0])) (hx:X.getD k default=(M,0)) (hkb:(t.known != s.known)=false) (iz:(t.ed==s.ed)=false) {ed:Ed.ah} (hE:PCall Tryz.prog 21 [.sl 4 (L.eds.map Ed.aF) .no,.int t.ed] (.tup [.agg (Ed.aF ed),.b true]))
 (hL:PCall Tryz.prog 22 [.agg (bg sc),.agg (Ed.aF ed),.agg (De.bt r2),.agg (bA M)] (.tup [.agg (bw fa),.b false,.int 0])) {K:Exit→Env→ae→Prop} :
 AWP Tryz.prog 212 nP (kq (fun e σ=>∃i,i≤l.length∧l.length - i<l.length - j∧fe e (agE ds l time k X i)∧σ.take 4=agS L c r sc) K) (Env.of (agE ds l time k X j)) (agS L c r sc):=by
 have hkX:k<X.length:=oM;have hjX:j<X.length:=oM
 repeat' (first|refine qP ?_ (h:=fun hg=>by first|exact iX aR l ((j:Nat):Int) ht (hb:=oM)|exact aa|exact pc hA2|exact pc hE|exact af)|apply sqW|refine rgK fun U V=>?_|(refine aN V ?_;clear V U)|refine aS ?_|refine aA ?_|refine cX ?_ ?_<;>intro hc<;>try simp only[dE] at hc|refine blK ?_|refine exW ?_|refine skW ?_|refine rtW ?_|refine kD fun U V=>?_|(refine aqN (V _ ?_);clear V U)|refine aqQ rfl rfl (fun hg=>by first|exact PRun.eq (v:=.b (t.ed==s.ed)) (PRun.cZ rfl rfl nd rfl nd rfl) (show AV.b (t.ed==s.ed)=AV.b false from congrArg AV.b iz)|exact PRun.eq (v:=.b (t.known != s.known)) (PRun.cZ rfl rfl nd rfl nd rfl) (show AV.b (t.known != s.known)=AV.b false from congrArg AV.b hkb)|exact iX aR l ((k:Nat):Int) hsk (hb:=oM)|exact aa|exact(Bool.noConfusion (show false=true from hg):PRun _ _ _ _ (.b false))|fail) (by exact rfl) ?_)
 all_goals (first|(exfalso;omega)|(exfalso;simp at hc;done)|(rename_i h7;exfalso;simp at h7;done)|skip)
 refine AWP.dZ (fun j=>match j with|0=>[.var (bq L),.var (bw c),.var (De.bt r),.var (bg sc),.var (aR t),.var (De.bt r2),.var (Ed.aF ed)]|1=>[.var (bq L),.var (bw c),.var (De.bt r),.var (bg sc),.var (aR t),.var (De.bt r2),.var (Ed.aF ed)]++[.var zCa]|_=>[.var (bq L),.var (bw c),.var (De.bt r),.var (bg sc),.var (aR t),.var (De.bt r2),.var (Ed.aF ed)]++[.var (bw fa)]) rfl (by kernel_rfl) dKn rfl dKn (fun U V=>?_)
 repeat' (first
  |refine yt (h:=by refine⟨?_,?_,?_,?_⟩<;>intro hh hg<;>first|exact absurd hh dKn|exact iX m1 X ((k:Nat):Int) hx (hb:=oM)|exact aa|exact pc hL|exact af|fail) (hk:=?_)|fail)
 refine YQ.e (v:=.ptr 7 0) (d:=some 26) rfl rfl rfl ?_ ?_
 · intro aw he;exact alW ab rfl rfl rfl rfl rfl rfl ⟨rfl,rfl⟩
 repeat' (first
  |refine yt (h:=by refine⟨?_,?_,?_,?_⟩<;>intro hh hg<;>first|exact absurd hh dKn|exact iX m1 X ((k:Nat):Int) hx (hb:=oM)|exact aa|exact pc hL|exact af|fail) (hk:=?_)|fail)
 refine YQ.e (v:=.any) (d:=none) rfl rfl rfl ?_ ?_
 · intro aw he;exact stW ab rfl rfl ((ai (he 26 dKn)).trans rfl) (by rw[aj (he 26 dKn)];first|exact tI|exact rfl) rfl ((ai (he 182 dKn)).trans rfl) (by rw[aj (he 182 dKn)];first|exact tI|exact rfl) rfl rfl rfl rfl rfl rfl rfl ⟨rfl,rfl⟩
 repeat' (first
  |refine yt (h:=by refine⟨?_,?_,?_,?_⟩<;>intro hh hg<;>first|exact absurd hh dKn|exact iX m1 X ((k:Nat):Int) hx (hb:=oM)|exact aa|exact pc hL|exact af|fail) (hk:=?_)|fail)
 refine YQ.nil (V _ _ ?_);clear V U
 repeat' (first|refine qS ?_|apply sqW|refine rgK fun U V=>?_|(refine aN V ?_;clear V U)|refine cX ?_ ?_<;>intro hc<;>try simp only[dE] at hc|refine exW ?_|refine skW ?_|refine rtW ?_)
 all_goals (first|(exfalso;omega)|(exfalso;simp at hc;done)|(rename_i h7;exfalso;simp at h7;done)|skip)
 exact⟨j+1,oM,oM,⟨rfl,rfl,rfl,rfl,rfl,rfl,rfl,rfl,rfl,rfl,rfl,rfl,rfl,tI⟩,rfl⟩
end Go.Proofs.YthiaimakjmhegaaGreatDoor.Top
namespace Go.Proofs.YthiaimakjmhegaaGreatDoor.Top
open Go.Ab Go.Jo Go.Sy Go.Pl Al Cy De Pl
attribute [local irreducible] AWP AOps EStep AQ PStep PRun PCall TCall VCall
theorem Ae {L:Lib} {ds:List Dec} {l:List Std} {time:Int} {k:Nat} {c:Pl.Call} {X:List (Mom×Int)} {r r2:Room} {sc:Score} {s t:Std} {M:Mom} {j:Nat} (hl9:l.length≤1000000000) (hX:X.length=l.length) (hk:k<l.length) (hlt:j<l.length) (hsk:l.getD k default=s) (ht:l.getD j default=t)
 (hA2:PCall Tryz.prog 18 [.sl 12 (L.ax.map aU) .no,.sl 6 (ds.map bx) .no,.int t.known,.int time] (.tup [.agg (De.bt r2),.int 0])) (hx:X.getD k default=(M,0)) (hkb:(t.known != s.known)=false) (iz:(t.ed==s.ed)=false) {ed:Ed.ah} (hE:PCall Tryz.prog 21 [.sl 4 (L.eds.map Ed.aF) .no,.int t.ed] (.tup [.agg (Ed.aF ed),.b true])) {d:Pl.Call}
 (hL:PCall Tryz.prog 22 [.agg (bg sc),.agg (Ed.aF ed),.agg (De.bt r2),.agg (bA M)] (.tup [.agg (bw d),.b true,.int 0])) (hQ:PCall Tryz.prog 9 [.sl 12 (L.ax.map aU) .no,.sl 4 (L.eds.map Ed.aF) .no,.sl 6 (ds.map bx) .no,.agg (aR t),.int time,.agg (bw d)] (.tup [.agg (bA M),.int 0])) {K:Exit→Env→ae→Prop} :
 AWP Tryz.prog 212 nP (kq (fun e σ=>∃i,i≤l.length∧l.length - i<l.length - j∧fe e (agE ds l time k X i)∧σ.take 4=agS L c r sc) K) (Env.of (agE ds l time k X j)) (agS L c r sc):=by
 have hkX:k<X.length:=oM;have hjX:j<X.length:=oM
 repeat' (first|refine qP ?_ (h:=fun hg=>by first|exact iX aR l ((j:Nat):Int) ht (hb:=oM)|exact aa|exact pc hA2|exact pc hE|exact af)|apply sqW|refine rgK fun U V=>?_|(refine aN V ?_;clear V U)|refine aS ?_|refine aA ?_|refine cX ?_ ?_<;>intro hc<;>try simp only[dE] at hc|refine blK ?_|refine exW ?_|refine skW ?_|refine rtW ?_|refine kD fun U V=>?_|(refine aqN (V _ ?_);clear V U)|refine aqQ rfl rfl (fun hg=>by first|exact PRun.eq (v:=.b (t.ed==s.ed)) (PRun.cZ rfl rfl nd rfl nd rfl) (show AV.b (t.ed==s.ed)=AV.b false from congrArg AV.b iz)|exact PRun.eq (v:=.b (t.known != s.known)) (PRun.cZ rfl rfl nd rfl nd rfl) (show AV.b (t.known != s.known)=AV.b false from congrArg AV.b hkb)|exact iX aR l ((k:Nat):Int) hsk (hb:=oM)|exact aa|exact(Bool.noConfusion (show false=true from hg):PRun _ _ _ _ (.b false))|fail) (by exact rfl) ?_)
 all_goals (first|(exfalso;omega)|(exfalso;simp at hc;done)|(rename_i h7;exfalso;simp at h7;done)|skip)
 refine AWP.dZ (fun j=>match j with|0=>[.var (bq L),.var (bw c),.var (De.bt r),.var (bg sc),.var (aR t),.var (De.bt r2),.var (Ed.aF ed)]|1=>[.var (bq L),.var (bw c),.var (De.bt r),.var (bg sc),.var (aR t),.var (De.bt r2),.var (Ed.aF ed)]++[.var zCa]|_=>[.var (bq L),.var (bw c),.var (De.bt r),.var (bg sc),.var (aR t),.var (De.bt r2),.var (Ed.aF ed)]++[.var (bw d)]) rfl (by kernel_rfl) dKn rfl dKn (fun U V=>?_)
 repeat' (first
  |refine yt (h:=by refine⟨?_,?_,?_,?_⟩<;>intro hh hg<;>first|exact absurd hh dKn|exact iX m1 X ((k:Nat):Int) hx (hb:=oM)|exact aa|exact pc hL|exact af|fail) (hk:=?_)|fail)
 refine YQ.e (v:=.ptr 7 0) (d:=some 26) rfl rfl rfl ?_ ?_
 · intro aw he;exact alW ab rfl rfl rfl rfl rfl rfl ⟨rfl,rfl⟩
 repeat' (first
  |refine yt (h:=by refine⟨?_,?_,?_,?_⟩<;>intro hh hg<;>first|exact absurd hh dKn|exact iX m1 X ((k:Nat):Int) hx (hb:=oM)|exact aa|exact pc hL|exact af|fail) (hk:=?_)|fail)
 refine YQ.e (v:=.any) (d:=none) rfl rfl rfl ?_ ?_
 · intro aw he;exact stW ab rfl rfl ((ai (he 26 dKn)).trans rfl) (by rw[aj (he 26 dKn)];first|exact tI|exact rfl) rfl ((ai (he 182 dKn)).trans rfl) (by rw[aj (he 182 dKn)];first|exact tI|exact rfl) rfl rfl rfl rfl rfl rfl rfl ⟨rfl,rfl⟩
 repeat' (first
  |refine yt (h:=by refine⟨?_,?_,?_,?_⟩<;>intro hh hg<;>first|exact absurd hh dKn|exact iX m1 X ((k:Nat):Int) hx (hb:=oM)|exact aa|exact pc hL|exact af|fail) (hk:=?_)|fail)
 refine YQ.nil (V _ _ ?_);clear V U
 repeat' (first|refine qP ?_ (h:=fun hg=>by first|exact aa|exact pc hQ|fail)|apply sqW|refine rgK fun U V=>?_|(refine aN V ?_;clear V U)|refine aS ?_|refine aA ?_|refine cX ?_ ?_<;>intro hc<;>try simp only[dE] at hc|refine exW ?_|refine skW ?_|refine rtW ?_|refine kD fun U V=>?_|(refine aqN (V _ ?_);clear V U)|refine aqQ rfl rfl (fun hg=>by first|exact iX m1 X ((k:Nat):Int) hx (hb:=oM)|exact aa|exact PRun.neN pa rfl rfl nd rfl nd rfl|fail) (by exact rfl) ?_)
 all_goals (first|(exfalso;omega)|(exfalso;simp at hc;done)|(rename_i h7;exfalso;simp at h7;done)|skip)
 all_goals first|(exfalso;simp at hc;omega)|exact⟨j+1,oM,oM,⟨rfl,rfl,rfl,rfl,rfl,rfl,rfl,rfl,rfl,rfl,rfl,rfl,rfl,tI⟩,rfl⟩
end Go.Proofs.YthiaimakjmhegaaGreatDoor.Top
namespace Go.Proofs.YthiaimakjmhegaaGreatDoor.Top
open Go.Ab Go.Jo Go.Sy Go.Pl Al Cy De Pl
attribute [local irreducible] AWP AOps EStep AQ PStep PRun PCall TCall VCall
theorem Fk (L:Lib) (h:fW L) (ds:List Dec) (hd:ds.length≤1000000000) (l:List Std) (hs:sH l) (time:Int) (c:Pl.Call) (hcl:c.letter.size≤9223372036854775807) (h0:er L ds l time c=0) (k:Nat) (hk:k<l.length) (nk:(cI L.ax L.eds ds (l.getD k default) time c).2=0) :
 PCall Tryz.prog 7 [.agg (bq L),.sl 6 (ds.map bx) .no,.sl 7 (l.map aR) .no,.int time,.int (k:Nat),.agg (bw c)] (.b true):=by
 have A:=Hm h0;have hc0:=lB L h ds hd l hs time c hcl;obtain⟨s,hsk⟩:∃s,l.getD k default=s:=⟨_,rfl⟩
 have hsm:s∈l:=hsk▸bD hk;have hg:=sJ L ds l time c hk;rw[hsk] at nk hg;obtain⟨hmo,hre⟩:=vV A hsm nk;obtain⟨ha0,hr,kk,hkk,hkl,hat⟩:=mc (eR A hsm);have hX:(gm L ds l time c).length=l.length:=by simp[gm]
 have hAt:=fun (t:Std)=>nq L.ax ds h.wl h.ws hd t.known time
 have hsc:k9 L.ax (atR L.ax ds s.known time).1.version=(L.ax.getD kk default).score:=by unfold k9;rw[hkk,zAe,hat]
 have hW:=CT L.ax h.wl (atR L.ax ds s.known time).1.version (JE hkk hkl) hkl;have hwin:=h.ws (L.ax.getD kk default) (bD hkl);have hso:=o9 A.lib (L.ax.getD kk default) (bD hkl);rw[hsc] at hre;have hdur:dp (cI L.ax L.eds ds s time c).1.pos=true:=by
  unfold gY at hmo;simp only[zA0] at hmo;exact hmo.1.1
 have hR:=wq (L.ax.getD kk default).score hwin.score hso (atR L.ax ds s.known time).1 (qM hr.form) hr.form (cI L.ax L.eds ds s time c).1 hdur;rw[hre] at hR;have hA1:=hAt s;rw[ha0] at hA1;unfold jX at hc0;rw[if_pos h0,h0] at hc0;obtain⟨M,hM⟩:∃M,(cI L.ax L.eds ds s time c).1=M:=⟨_,rfl⟩
 have hWM:cI L.ax L.eds ds s time c=(M,0):=by rw[←hM,←nk]
 rw[hWM] at hg;rw[hM] at hR;have hx:(gm L ds l time c).getD k default=(M,0):=hg;have hkX:k<(gm L ds l time c).length:=oM;obtain⟨X,hXd⟩:∃X,gm L ds l time c=X:=⟨_,rfl⟩
 rw[hXd] at hc0 hX hx hkX;obtain⟨r,hrd⟩:∃r,(atR L.ax ds s.known time).1=r:=⟨_,rfl⟩
 rw[hrd] at hA1 hW hR;obtain⟨sc,uQ⟩:∃sc,(L.ax.getD kk default).score=sc:=⟨_,rfl⟩
 rw[uQ] at hW hR;refine PCall.body Tryz.func7 rfl rfl Tryz.ntmps7 rfl rfl ?_
 repeat' (first|refine qP ?_ (h:=fun hg=>by first|exact iX e1 X ((k:Nat):Int) hx (hb:=oM)|exact iX m1 X ((k:Nat):Int) hx (hb:=oM)|exact aa|exact pc hc0|exact pbD ab rfl rfl nds|exact PRun.eqN pa rfl rfl nd rfl nd rfl|exact af)|apply sqW|refine rgK fun U V=>?_|(refine aN V ?_;clear V U)|refine aB ?_|refine cX ?_ ?_<;>intro hc<;>try simp only[dE] at hc|refine skW ?_|refine rtW ?_)
 · exfalso;rw[hX] at hc;simp at hc
 · exfalso;simp at hc
 refine AWP.dZ (fun j=>match j with|0=>[.var (bq L),.var (bw c)]|1=>[.var (bq L),.var (bw c),.var zRo]|_=>[.var (bq L),.var (bw c),.var (De.bt r)]) rfl (by kernel_rfl) dKn rfl dKn (fun U V=>?_)
 repeat' (first
  |refine yt (h:=by refine⟨?_,?_,?_,?_⟩<;>intro hh hg<;>first|exact absurd hh dKn|exact iX aR l ((k:Nat):Int) hsk (hb:=oM)|exact aa|exact pc hA1|exact af|fail) (hk:=?_)|fail)
 refine YQ.e (v:=.ptr 2 0) (d:=some 16) rfl rfl rfl ?_ ?_
 · intro aw he;exact alW ab rfl rfl rfl rfl rfl rfl ⟨rfl,rfl⟩
 repeat' (first
  |refine yt (h:=by refine⟨?_,?_,?_,?_⟩<;>intro hh hg<;>first|exact absurd hh dKn|exact iX aR l ((k:Nat):Int) hsk (hb:=oM)|exact aa|exact pc hA1|exact af|fail) (hk:=?_)|fail)
 refine YQ.e (v:=.any) (d:=none) rfl rfl rfl ?_ ?_
 · intro aw he;exact stW ab rfl rfl ((ai (he 16 dKn)).trans rfl) (by rw[aj (he 16 dKn)];first|exact tI|exact rfl) rfl ((ai (he 79 dKn)).trans rfl) (by rw[aj (he 79 dKn)];first|exact tI|exact rfl) rfl rfl rfl rfl rfl rfl rfl ⟨rfl,rfl⟩
 repeat' (first
  |refine yt (h:=by refine⟨?_,?_,?_,?_⟩<;>intro hh hg<;>first|exact absurd hh dKn|exact iX aR l ((k:Nat):Int) hsk (hb:=oM)|exact aa|exact pc hA1|exact af|fail) (hk:=?_)|fail)
 refine YQ.nil (V _ _ ?_);clear V U
 repeat' (first|refine qP ?_ (h:=fun hg=>by first|exact aa|exact pc hW|exact af)|apply sqW|refine rgK fun U V=>?_|(refine aN V ?_;clear V U)|refine aS ?_|refine aA ?_|refine cX ?_ ?_<;>intro hc<;>try simp only[dE] at hc|refine blK ?_|refine skW ?_|refine rtW ?_|refine kD fun U V=>?_|(refine aqN (V _ ?_);clear V U)|refine aqQ rfl rfl (fun hg=>by first|exact iX m1 X ((k:Nat):Int) hx (hb:=oM)|exact aa|exact pc hR|fail) (by exact rfl) ?_)
 · exfalso;simp at hc
 clear hc0 hR hA1 hW;have hl9:l.length≤1000000000:=hs.1;refine lpD (ι:=Nat) (agE ds l time k X) (fun _=>agS L c r sc) (fun j=>j≤l.length) (fun j=>l.length - j) 4 (fun _=>rfl) 0 (nZl _) ⟨rfl,rfl,rfl,rfl,rfl,rfl,rfl,rfl,rfl,rfl,rfl,rfl,rfl,tI⟩ rfl (fun _ _=>rfl) (fun _ _=>rfl) ?_;intro j hj;by_cases hlt:j<l.length
 · obtain⟨t,ht⟩:∃t,l.getD j default=t:=⟨_,rfl⟩
   have htm:t∈l:=ht▸bD hlt;have hA2:=hAt t;rw[(mc (eR A htm)).1] at hA2;have hxj:=sJ L ds l time c hlt;rw[ht,hXd] at hxj;obtain⟨r2,hr2⟩:∃r2,(atR L.ax ds t.known time).1=r2:=⟨_,rfl⟩
   rw[hr2] at hA2;by_cases hkn:t.known=s.known
   · have hkb:(t.known != s.known)=false:=by simp[hkn]
     have hE:=CU L.eds h.el t.ed;have hf2:FIn r2.form:=hr2▸qM (mc (eR A htm)).2.1.form;have hscs:sc.Small:=uQ▸hwin.score;by_cases he:dg L.eds t.ed<0
     · have h4:=rB A htm he;have iz:(t.ed==s.ed)=false:=by
        cases hb:(t.ed==s.ed) with
        |false=>rfl
        | true =>
          have h5:=rB A hsm (by rw[←beq_iff_eq.1 hb];exact he);rw[hWM] at h5;cases h5
       rw[decide_eq_true he] at hE;exact JF (M:=M) hs.1 hX hk hlt hsk ht hA2 hkb iz (Y:=cI L.ax L.eds ds t time c) h4 hxj hE (by unfold iH;rw[if_pos he])
     · obtain⟨jj,he',hel,_⟩:=bY (p:=fun e:Ed.ah=>e.id==t.ed) (l:=L.eds) (by have:dg L.eds t.ed=az (fun e:Ed.ah=>e.id==t.ed) L.eds:=rfl;omega);have he':dg L.eds t.ed=jj:=he';obtain⟨ed,uR⟩:∃ed,L.eds.getD jj default=ed:=⟨_,rfl⟩
       have hgE:iH L.eds t.ed=Ed.aF ed:=by unfold iH;rw[he',if_neg oM,zAe,uR]
       rw[hgE,he',decide_eq_false oM] at hE;have hE:PCall Tryz.prog 21 [.sl 4 (L.eds.map Ed.aF) .no,.int t.ed] (.tup [.agg (Ed.aF ed),.b true]):=hE;have hL:=zW sc hscs ed (uR▸h.es _ (bD hel)) r2 hf2 M;by_cases hte:t.ed=s.ed
       · have iz:(t.ed==s.ed)=true:=by simp[hte]
         have hxj2:X.getD j default=(M,0):=by rw[←hWM,←Ac A htm hsm hkn hte];exact hxj
         rcases qs A hsm htm hkn nk he' hel with me|⟨d,me,hdl,kV⟩
         · rw[hsc,uQ,hM,hr2,uR] at me;rw[me] at hL;exact CV hs.1 hX hk hlt hsk ht hA2 hx hkb iz hxj2 hE hL
         · rw[hsc,uQ,hM,hr2,uR] at me;rw[me] at hL;have hQ:=mM L.ax h.wl h.ws L.eds h.el h.es ds hd t (hs.2 t htm).1 (hs.2 t htm).2 time d oM;rw[kV,hM] at hQ;exact Ad hs.1 hX hk hlt hsk ht hA2 hx hkb iz hxj2 hE hL hQ
       · have iz:(t.ed==s.ed)=false:=by simp[hte]
         rcases qs A hsm htm hkn nk he' hel with me|⟨d,me,hdl,kV⟩
         · rw[hsc,uQ,hM,hr2,uR] at me;rw[me] at hL;exact CW hs.1 hX hk hlt hsk ht hA2 hx hkb iz hE hL
         · rw[hsc,uQ,hM,hr2,uR] at me;rw[me] at hL;have hQ:=mM L.ax h.wl h.ws L.eds h.el h.es ds hd t (hs.2 t htm).1 (hs.2 t htm).2 time d oM;rw[kV,hM] at hQ;exact Ae hs.1 hX hk hlt hsk ht hA2 hx hkb iz hE hL hQ
   · exact Hr (M:=M) hs.1 hX hk hlt hsk ht hA2 (by simp[hkn])
 · obtain rfl:j=l.length:=oM
   repeat' (first|refine qT ?_|apply sqW|refine rgK fun U V=>?_|(refine aN V ?_;clear V U)|refine aS ?_|refine aA ?_|refine cX ?_ ?_<;>intro hc<;>try simp only[dE] at hc|refine blK ?_|refine exW ?_|refine skW ?_|refine rtW ?_)
   all_goals (first|(exfalso;omega)|skip)
   exact⟨.inr rfl,Ent.b rfl⟩
end Go.Proofs.YthiaimakjmhegaaGreatDoor.Top
