/- Parts of the proof. No statement is proved here. -/
import Derived.Test.YthiaimakjmhegaaGreatDoorP29
import Derived.Test.YthiaimakjmhegaaGreatDoorP33
import Derived.Test.YthiaimakjmhegaaGreatDoorP34
set_option linter.unusedVariables false
set_option linter.unusedSimpArgs false
set_option maxHeartbeats 16000000
set_option maxRecDepth 20000
namespace Go.Proofs.YthiaimakjmhegaaGreatDoor.Top
open Go.Ab Go.Jo Go.Sy Go.Pl Al Cy De Pl
attribute [local irreducible] AWP AOps EStep AQ PStep PRun PCall TCall VCall
def oZ (L:Lib) (ds:List Dec):List AV:=bq L++[.sl 6 (ds.map bx) .no]
def sH (l:List Std):Prop:=l.length≤1000000000∧∀s∈l,Txt s.evs∧s.evs.length≤1000000000
theorem lA (L:Lib) (h:fW L) (ds:List Dec) (hd:ds.length≤1000000000):PCall Tryz.prog 15 [.agg (oZ L ds)] (.b (jW L&&jr L.ax ds)):=by
 have h1:=Fh L h;have h2:=vS L.ax h.wl h.ws ds hd;refine PCall.body Tryz.func15 rfl rfl Tryz.ntmps15 rfl rfl ?_
 repeat' (first|refine qP ?_ (h:=fun hg=>by first|exact aa|exact pc h1|exact pc h2|fail)|apply sqW|refine rgK fun U V=>?_|(refine aN V ?_;clear V U)|refine aB ?_|refine rtW ?_)
 exact⟨.inr rfl,Ent.b rfl⟩
def gm (L:Lib) (ds:List Dec) (l:List Std) (time:Int) (c:Pl.Call):List (Mom×Int):=l.map fun s=>cI L.ax L.eds ds s time c
def uP (r:Mom×Int):List AV:=[.agg (bA r.1),.int r.2]
abbrev mA (l:List (Mom×Int)):List (List AV):=l.map fun r=>bA r.1
abbrev eA (l:List (Mom×Int)):List (List AV):=l.map fun r=>[AV.int r.2]
abbrev cSt (l:List (Mom×Int)):ae:=[.dead,.dead,.dead,.var [.sl 4 (mA l) (.own 5)],.var [.sl 1 (eA l) (.own 6)],.own 4 (mA l).length,.own 1 (eA l).length]
theorem wu (L:Lib) (ds:List Dec) (l:List Std) (time:Int) (c:Pl.Call):PCall Tryz.prog 17 [.agg (oZ L ds),.sl 7 (l.map aR) .no,.int time,.agg (bw c)]
 (.fn (.func 44) [] [.iptr [.sl 7 (l.map aR) .no],.iptr (oZ L ds),.iptr [.int time],.iptr (bw c)]):=by
 refine PCall.body Tryz.func17 rfl rfl Tryz.ntmps17 rfl rfl ?_
 repeat refine sqW ?_
 refine rgK fun U V=>?_
 repeat' (first|refine qS ?_|refine aB ?_)
 refine aoN (V _ _ ?_);clear V U
 repeat refine sqW ?_
 refine rgK fun U V=>?_
 repeat' (first|refine qS ?_)
 refine aoN (V _ _ ?_);clear V U;refine AWP.bj 0 rfl rfl ?_;refine AWP.bj 1 rfl rfl ?_;refine AWP.bj 2 rfl rfl ?_;refine AWP.bj 3 rfl rfl ?_
 repeat' (first|refine rtW ?_)
 exact⟨.inr rfl,fun _ _ h=>h⟩
theorem wx (L:Lib) (h:fW L) (ds:List Dec) (hd:ds.length≤1000000000) (l:List Std) (hs:sH l) (time:Int) (c:Pl.Call) (hcl:c.letter.size≤9223372036854775807) (Q:Nat→List (Mom×Int)) (rc:Loop) (E:List (Nat×AV)) :
 ox Tryz.prog 44 [] [.iptr [.sl 7 (l.map aR) .no],.iptr (oZ L ds),.iptr [.int time],.iptr (bw c)] ((gm L ds l time c).map uP) 8 (fun j=>cSt (Q j)++[bc.loop rc E]) (fun _=>True):=by
 intro yv R hP0 hS hR hyd fI;have hy:=hyd 2;have hlen:((gm L ds l time c).map uP).length=l.length:=by simp[gm]
 rw[hlen] at hS ⊢;obtain⟨hl,hst⟩:=hs;have hS':∀j,j≤l.length→(cSt (Q j)++[bc.loop rc E]).length=8∧(cSt (Q j)++[bc.loop rc E]:ae).all (aD 8)=true:=hS
 have hv:∀k s,k<l.length→l.getD k default=s→VCall Tryz.prog (.opq yv) (uP (cI L.ax L.eds ds s time c)) ((cSt (Q k)++[bc.loop rc E])++[bc.var (aR s)]) (fun r t=>∃t',t=t'++[bc.var (aR s)]∧((r=.b true∧t'=cSt (Q (k+1))++[bc.loop rc E]∧True)∨(r=.b false∧R k t'))):=fun k s hk hsk=>by
  have hx:((gm L ds l time c).map uP)[k]? = some (uP (cI L.ax L.eds ds s time c)):=by
   unfold gm;rw[zA5,zA5,zA1 hk,←hsk,bb hk];rfl
  exact VCall.frame (fI k _ hx trivial) [bc.var (aR s)] (hS' k oM).2 (by show aO _ 3 yv=true;exact hy) rfl (by
   rintro rv s' (⟨_,rfl,_⟩|⟨_,hh⟩)
   · exact((hS' (k+1) oM).1).trans ((hS' k oM).1).symm
   · exact((hR _ _ hh).1).trans ((hS' k oM).1).symm)
 show TCall _ _ [.opq yv,.iptr [.sl 7 (l.map aR) .no],.iptr (oZ L ds),.iptr [.int time],.iptr (bw c)] (cSt (Q 0)++[bc.loop rc E]) _;clear fI hS;refine TCall.body Tryz.func44 rfl rfl Tryz.ntmps44 rfl rfl ?_
 repeat' (first|refine qT ?_|apply sqW|refine rgK fun U V=>?_|(refine aN V ?_;clear V U)|refine blK ?_)
 refine lpD (ι:=Nat) (fun k=>[(0,.opq yv),(2,.iptr (oZ L ds)),(3,.iptr [.int time]),(4,.iptr (bw c)),(8,.sl 7 (l.map aR) .no),(9,.int l.length),(10,.int k)]) (fun k=>cSt (Q k)++[bc.loop rc E])
  (fun k=>k≤l.length) (fun k=>l.length - k) 8 (fun _=>rfl) 0 (nZl _) ⟨rfl,rfl,rfl,rfl,rfl,rfl,rfl,tI⟩ rfl (fun k _=>by
   simp only[zB4,zBg,zCf,zA0];exact⟨hy,rfl,rfl,rfl,rfl,rfl,rfl⟩) (fun k hk=>(hS' k hk).2) ?_
 intro k hk;by_cases hlt:k<l.length
 · obtain⟨s,hsk⟩:∃s,l.getD k default=s:=⟨_,rfl⟩
   have hsm:=hst s (hsk▸bD hlt);have hr:=mM L.ax h.wl h.ws L.eds h.el h.es ds hd s hsm.1 hsm.2 time c hcl;have hv1:=hv k s hlt hsk;generalize cI L.ax L.eds ds s time c=W at *;clear hv
   repeat' (first|refine qP ?_ (h:=fun hg=>by first|exact iX aR l ((k:Nat):Int) hsk (hb:=oM)|exact aa|exact pc hr|fail)|apply sqW|refine rgK fun U V=>?_|(refine aN V ?_;clear V U)|refine aS ?_|refine aA ?_|refine aoE (scT (hv1) rfl rfl rfl rfl rfl nd rfl rfl nds ?_)|refine cX ?_ ?_<;>intro hc<;>try simp only[dE] at hc|refine blK ?_|refine exW ?_|refine skW ?_)
   all_goals (first|(exfalso;omega)|skip)
   rintro r1 t ⟨t',rfl,⟨rfl,rfl,_⟩|⟨rfl,hh⟩⟩
   · repeat' (first|refine qS ?_|refine rgK fun U V=>?_|(refine aN V ?_;clear V U)|refine cX ?_ ?_<;>intro hc<;>try simp only[dE] at hc|refine skW ?_|refine rtW ?_)
     · exfalso;simp at hc
     · exact⟨k+1,oM,oM,⟨rfl,rfl,rfl,rfl,rfl,rfl,rfl,tI⟩,rfl⟩
   · obtain⟨k1,k2⟩:=hR _ _ hh
     repeat' (first|refine qS ?_|refine rgK fun U V=>?_|(refine aN V ?_;clear V U)|refine cX ?_ ?_<;>intro hc<;>try simp only[dE] at hc|refine skW ?_|refine rtW ?_)
     · exact⟨.inr rfl,.tup [],t',.inr ⟨k,hlt,hh⟩,by simp,by rw[k1];exact nLr _,by rw[k1];exact k2,rfl,rfl⟩
     · exfalso;simp at hc
 · obtain rfl:k=l.length:=oM;have h9:=hS' l.length (nLr _)
   repeat' (first|refine qT ?_|apply sqW|refine rgK fun U V=>?_|(refine aN V ?_;clear V U)|refine aS ?_|refine aA ?_|refine cX ?_ ?_<;>intro hc<;>try simp only[dE] at hc|refine blK ?_|refine exW ?_|refine skW ?_)
   all_goals (first|(exfalso;omega)|skip)
   exact⟨.inl rfl,.tup [],_,.inl ⟨rfl,trivial⟩,by simp,by rw[h9.1];exact nLr _,by rw[h9.1];exact h9.2,rfl,rfl⟩
def o6 (L:Lib) (ds:List Dec) (l:List Std) (time:Int) (c:Pl.Call):Bool:=decide (time<0)||decide (time>1000000000)||!cU c||!(jW L&&jr L.ax ds)||!uO l (ds.length:Int)
def er (L:Lib) (ds:List Dec) (l:List Std) (time:Int) (c:Pl.Call):Int:=if l.length>200 then 2 else if o6 L ds l time c=true then 1 else 0
def jX (L:Lib) (ds:List Dec) (l:List Std) (time:Int) (c:Pl.Call):List (Mom×Int):=if er L ds l time c=0 then gm L ds l time c else []
theorem lB (L:Lib) (h:fW L) (ds:List Dec) (hd:ds.length≤1000000000) (l:List Std) (hs:sH l) (time:Int) (c:Pl.Call) (hcl:c.letter.size≤9223372036854775807) :
 PCall Tryz.prog 6 [.agg (bq L),.sl 6 (ds.map bx) .no,.sl 7 (l.map aR) .no,.int time,.agg (bw c)] (.tup [.sl 4 (mA (jX L ds l time c)) .no,.sl 1 (eA (jX L ds l time c)) .no,.int (er L ds l time c)]):=by
 have h1:=rl c hcl;have h2:=lA L h ds hd;have h3:=Hl l hs.1 hs.2 (ds.length:Int);have h4:=wu L ds l time c;unfold jX;by_cases hl:l.length>200
 · have e:er L ds l time c=2:=if_pos hl;rw[e,if_neg dCd];refine PCall.body Tryz.func6 rfl rfl Tryz.ntmps6 rfl rfl ?_
   repeat' (first|refine qP ?_ (h:=fun hg=>by first|exact aa|exact pbD ab rfl rfl nds|exact af)|apply sqW|refine rgK fun U V=>?_|(refine aN V ?_;clear V U)|refine aB ?_|refine aS ?_|refine aA ?_|refine cX ?_ ?_<;>intro hc<;>try simp only[dE] at hc|refine blK ?_|refine rtW ?_)
   all_goals (first|(exfalso;omega)|skip)
   exact⟨.inr rfl,Ent.tup3 Ent.nil Ent.nil (Ent.bO _)⟩
 · by_cases ha:o6 L ds l time c=true
   · have e:er L ds l time c=1:=by unfold er;rw[if_neg hl,if_pos ha]
     rw[e,if_neg dCd];refine PCall.body Tryz.func6 rfl rfl Tryz.ntmps6 rfl rfl ?_
     repeat' (first|refine qP ?_ (h:=fun hg=>by first|exact aa|exact pbD ab rfl rfl nds|exact pc h1|exact pc h2|exact pc h3|exact af)|apply sqW|refine rgK fun U V=>?_|(refine aN V ?_;clear V U)|refine aB ?_|refine aS ?_|refine aA ?_|refine cX ?_ ?_<;>intro hc<;>try simp only[dE] at hc|refine blK ?_|refine skW ?_|refine rtW ?_)
     all_goals (first|(exfalso;omega)|skip)
     · skip
       exact⟨.inr rfl,Ent.tup3 Ent.nil Ent.nil (Ent.bO _)⟩
     · exfalso;have h9:o6 L ds l time c=false:=hc;rw[ha] at h9;cases h9
   · have e:er L ds l time c=0:=by unfold er;rw[if_neg hl,if_neg ha]
     rw[e,if_pos rfl];have hrl:(gm L ds l time c).length=l.length:=by simp[gm]
     have hit:=fun (rc:Loop)=>wx L h ds hd l hs time c hcl (fun j=>(gm L ds l time c).take j) rc [(14,.ptr 3 0),(15,.ptr 4 0)]
     refine PCall.body Tryz.func6 rfl rfl Tryz.ntmps6 rfl rfl ?_
     repeat' (first|refine qP ?_ (h:=fun hg=>by first|exact aa|exact pbD ab rfl rfl nds|exact pc h1|exact pc h2|exact pc h3|exact pc h4|exact af)|apply sqW|refine rgK fun U V=>?_|(refine aN V ?_;clear V U)|refine aB ?_|refine aS ?_|refine aA ?_|refine cX ?_ ?_<;>intro hc<;>try simp only[dE] at hc|refine blK ?_|refine skW ?_|refine rtW ?_)
     all_goals (first|(exfalso;omega)|skip)
     · exfalso;have h9:o6 L ds l time c=true:=hc;exact ha h9
     refine AWP.bj 0 rfl rfl ?_;refine AWP.bj 1 rfl rfl ?_;refine AWP.bj 2 rfl rfl ?_;refine AWP.nt (v:=3) (i:=0) (sz:=4) (cs:=[.nils]) rfl rfl ?_;refine AWP.nt (v:=4) (i:=0) (sz:=1) (cs:=[.nils]) rfl rfl ?_;clear h1 h2 h3 h4;generalize gm L ds l time c=X at *
     refine AWP.iF (k:=44) (first:=[]) (aQ:=[.iptr [.sl 7 (l.map aR) .no],.iptr (oZ L ds),.iptr [.int time],.iptr (bw c)]) (X.map uP) [(14,.ptr 3 0),(15,.ptr 4 0)] (fun j=>cSt (X.take j)) (fun _=>True) (fun _ _ _=>False)
      hit trivial rfl tI ?_ ?_ rfl ⟨rfl,rfl,tI⟩ rfl rfl (fun j _=>⟨rfl,rfl⟩) (fun _ _ _ h=>h.elim) ?_ ?_ (fun _ _ _ _ h=>h.elim)
     · intro x hx;obtain⟨r,_,rfl⟩:=zAq.1 hx;rfl
     · intro x hx;obtain⟨r,_,rfl⟩:=zAq.1 hx;rfl
     · intro j x hx _;simp only[zA5,zA6] at hx;obtain⟨r,hr,rfl⟩:=hx;have hj:j<X.length:=by
        rcases nLg j X.length with h|h
        · exact h
        · simp[zA3 h] at hr
       have e9:X.take (j+1)=X.take j++[r]:=by rw[zC8,hr];rfl
       have hA:(X.take j).length≤200:=by rw[zAn];omega
       rw[e9];generalize X.take j=A at *
       repeat' (first|refine qS ?_|apply sqW|refine rgK fun U V=>?_|(refine aN V ?_;clear V U)|refine aS ?_|refine aA ?_)
       refine⟨rfl,?_⟩
       repeat' (first|refine blK ?_)
       refine AWP.kR (yo [59,63]) (fun j=>match j with
        |0=>[.dead,.dead,.dead,.var [.sl 4 (mA A) (.own 5)],.var [.sl 1 (eA A) (.own 6)],.own 4 (mA A).length,.own 1 (eA A).length,.var (bA r.1)]
        |1=>[.dead,.dead,.dead,.var [.sl 4 (mA A) (.own 5)],.var [.sl 1 (eA A) (.own 6)],.own 4 (mA A++[bA r.1]).length,.own 1 (eA A).length,.var (bA r.1)]
        |2=>[.dead,.dead,.dead,.var [.sl 4 (mA A) (.own 5)],.var [.sl 1 (eA A) (.own 6)],.own 4 (mA A++[bA r.1]).length,.own 1 (eA A++[[AV.int r.2]]).length,.var (bA r.1)]
        |3=>[.dead,.dead,.dead,.var [.sl 4 (mA A++[bA r.1]) (.own 5)],.var [.sl 1 (eA A) (.own 6)],.own 4 (mA A++[bA r.1]).length,.own 1 (eA A++[[AV.int r.2]]).length,.var (bA r.1)]
        |_=>[.dead,.dead,.dead,.var [.sl 4 (mA A++[bA r.1]) (.own 5)],.var [.sl 1 (eA A++[[AV.int r.2]]) (.own 6)],.own 4 (mA A++[bA r.1]).length,.own 1 (eA A++[[AV.int r.2]]).length,.var (bA r.1)]) rfl (by kernel_rfl) dKn rfl dKn (fun U V=>?_)
       repeat' (first
        |refine yt (h:=by refine⟨?_,?_,?_,?_⟩<;>intro hh hg<;>first|exact absurd hh dKn|exact aa|exact pbS ab rfl rfl nds|exact af|fail) (hk:=?_)|fail)
       refine YQ.e (v:=.sl 4 (mA A++[bA r.1]) (.own 5)) (d:=some 59) rfl rfl rfl ?_ ?_
       · intro aw he;exact apO ab rfl rfl rfl dCd (Rd.w ((ai (he 56 dKn)).trans rfl) (by rw[aj (he 56 dKn)];first|exact tI|exact rfl)) rfl (Rd.w ((ai (he 58 dKn)).trans rfl) (by rw[aj (he 58 dKn)];first|exact tI|exact rfl)) (.sl rfl (by intro x hx;rcases zA9.1 hx with rfl;rfl)) (lkG rfl) (lkG rfl) rfl rfl (by simp only[lLm,zAd,zAm];omega) (by simp only[lLm,zAd,zAm];omega) ⟨rfl,rfl⟩
       repeat' (first
        |refine yt (h:=by refine⟨?_,?_,?_,?_⟩<;>intro hh hg<;>first|exact absurd hh dKn|exact aa|exact pbS ab rfl rfl nds|exact af|fail) (hk:=?_)|fail)
       refine YQ.e (v:=.sl 1 (eA A++[[AV.int r.2]]) (.own 6)) (d:=some 63) rfl rfl rfl ?_ ?_
       · intro aw he;exact apO ab rfl rfl rfl dCd (Rd.w ((ai (he 60 dKn)).trans rfl) (by rw[aj (he 60 dKn)];first|exact tI|exact rfl)) rfl (Rd.w ((ai (he 62 dKn)).trans rfl) (by rw[aj (he 62 dKn)];first|exact tI|exact rfl)) (.sl rfl (by intro x hx;rcases zA9.1 hx with rfl;rfl)) (lkG rfl) (lkG rfl) rfl rfl (by simp only[lLm,zAd,zAm];omega) (by simp only[lLm,zAd,zAm];omega) ⟨rfl,rfl⟩
       repeat' (first
        |refine yt (hk:=?_)|fail)
       refine YQ.e (v:=.any) (d:=none) rfl rfl rfl ?_ ?_
       · intro aw he;exact stW ab rfl rfl ((ai (he 14 dKn)).trans rfl) (by rw[aj (he 14 dKn)];first|exact tI|exact rfl) rfl ((ai (he 59 dKn)).trans rfl) (by rw[aj (he 59 dKn)];first|exact tI|exact rfl) rfl rfl rfl rfl rfl rfl rfl ⟨rfl,rfl⟩
       refine YQ.e (v:=.any) (d:=none) rfl rfl rfl ?_ ?_
       · intro aw he;exact stW ab rfl rfl ((ai (he 15 dKn)).trans rfl) (by rw[aj (he 15 dKn)];first|exact tI|exact rfl) rfl ((ai (he 63 dKn)).trans rfl) (by rw[aj (he 63 dKn)];first|exact tI|exact rfl) rfl rfl rfl rfl rfl rfl rfl ⟨rfl,rfl⟩
       refine YQ.nil (V _ _ ?_);clear V U
       skip
       refine⟨?_,trivial⟩;show[_,_,_,_,_,_,_]=[_,_,_,_,_,_,_];simp[mA,eA]
     · intro _
       repeat' (first|apply sqW|refine rtW ?_|refine kD fun U V=>?_|(refine aqN (V _ ?_);clear V U)|refine aqQ rfl rfl (fun hg=>by exact aa) (by exact rfl) ?_)
       refine⟨.inr rfl,Ent.of ?_⟩;rw[lLm,zBl];rfl
end Go.Proofs.YthiaimakjmhegaaGreatDoor.Top
namespace Go.Proofs.YthiaimakjmhegaaGreatDoor.Top
open Go.Ab Go.Jo Go.Sy Go.Pl Al Cy De Pl
structure o8 (L:Lib) (ds:List Dec) (l:List Std) (time:Int) (c:Pl.Call):Prop where
 time:0≤time∧time≤1000000000
 call:cU c=true
 lib:jW L=true
 decs:jr L.ax ds=true
 tog:uO l (ds.length:Int)=true
theorem Hm {L:Lib} {ds:List Dec} {l:List Std} {time:Int} {c:Pl.Call} (h:er L ds l time c=0):o8 L ds l time c:=by
 unfold er at h;by_cases h1:l.length>200
 · rw[if_pos h1] at h;cases h
 rw[if_neg h1] at h;by_cases h2:o6 L ds l time c=true
 · rw[if_pos h2] at h;cases h
 have h3:o6 L ds l time c=false:=by cases hb:o6 L ds l time c with|true=>exact absurd hb h2|false=>rfl
 unfold o6 at h3;simp only[zAg,zBc,zA0,dEf] at h3;obtain⟨⟨⟨⟨a,b⟩,c1⟩,d,e⟩,f⟩:=h3;exact⟨oM,c1,d,e,f⟩
theorem Hn {L:Lib} {ds:List Dec} {l:List Std} {time:Int} {c:Pl.Call} (hl:l.length≤200) (h:er L ds l time c≠0):er L ds l time c=1:=by
 unfold er at h ⊢;rw[if_neg oM] at h ⊢;by_cases h2:o6 L ds l time c=true
 · rw[if_pos h2]
 · rw[if_neg h2] at h;exact absurd rfl h
theorem vU {L:Lib} (h:jW L=true):c1B L=true∧c2B L=true∧c3B L=true∧c4B L=true∧c5B L=true∧c6B L=true:=by
 unfold jW at h;simp only[zA0] at h;exact⟨h.1.1.1.1.1,h.1.1.1.1.2,h.1.1.1.2,h.1.1.2,h.1.2,h.2⟩
theorem o9 {L:Lib} (h:jW L=true):∀w∈L.ax,bG w.score=true:=fun w hw=>by
 have h2:=(vU h).2.1;obtain⟨j,hj,rfl⟩:=zAu.1 hw;have:=zA4.1 h2 j (zAs.2 hj);rw[bb hj] at this;unfold wkB at this;simp only[zA0] at this;exact this.1.1.1
theorem A2 {L:Lib} (h:jW L=true):L.eds.length≤12∧(∀j,j<L.eds.length→iY L.ax L.eds j=true):=by
 have h3:=(vU h).2.2.1;unfold c3B at h3;rw[zA0] at h3;exact⟨by have:=of_decide_eq_true h3.1;omega,fun j hj=>zA4.1 h3.2 j (zAs.2 hj)⟩
theorem mN {L:Lib} {j:Nat} (h:iY L.ax L.eds j=true):Ed.bE (L.eds.getD j default)=true∧dg L.eds (L.eds.getD j default).id=j:=by
 unfold iY Ed.yc at h;simp only[zA0,beq_iff_eq] at h;exact⟨h.2.1.1.2,h.1.2⟩
theorem sI {L:Lib} (h:jW L=true):oY L.eds=true:=by
 obtain⟨h1,h2⟩:=A2 h;unfold oY;simp only[zA0,dEt,zA4];refine⟨⟨h1,?_⟩,fun e he=>?_⟩
 · refine zCc.2 fun i j hi hj hij hx=>?_
   rw[lLm] at hi hj;have hx':(L.eds[i]).id=(L.eds[j]).id:=by simpa using hx
   have a:=(mN (h2 i oM)).2;have b:=(mN (h2 j hj)).2;rw[bb (by omega:i<L.eds.length)] at a;rw[bb hj] at b;rw[hx',b] at a;omega
 · obtain⟨j,hj,rfl⟩:=zAu.1 he;have:=(mN (h2 j hj)).1;rwa [bb hj] at this
theorem Ho {l:List Std} {many:Int} (h:uO l many=true) {s:Std} (hs:s∈l):iw s=true∧s.known≤many∧0≤s.known:=by
 unfold uO at h;rw[zA0] at h;have h2:=zA4.1 h.2 s hs;unfold wK at h2;simp only[zB3,zAg,dEf,zBc] at h2;have h3:=h2.2;unfold iw at h3;simp only[zA0,inR,dEt] at h3;exact⟨h2.2,oM,h3.1.1.2.1⟩
theorem eR {L:Lib} {ds:List Dec} {l:List Std} {time:Int} {c:Pl.Call} (A:o8 L ds l time c) {s:Std} (hs:s∈l):eG L.ax ds s time=0:=by
 obtain⟨h1,h2,h3⟩:=Ho A.tog hs;have h4:(atR L.ax ds s.known time).2=0:=by
  unfold atR;rw[if_neg];rw[A.decs];unfold De.jV;have:=A.time;simp;omega
 unfold eG;rw[h1,h4,if_neg dCd,if_neg dCd,if_pos (zA4.2 fun w hw=>o9 A.lib w hw)]
theorem CS {l:List aV}:∀{last:Int},gk last l=true→l.Pairwise fun a b=>a.score.version<b.score.version:=by
 induction l with
 |nil=>intro last _;exact List.Pairwise.nil
 | cons x l ih =>
   intro last h;unfold gk at h;rw[zA0] at h;exact zCs.2 ⟨fun y hy=>(vJ h.2 y hy).2.2.1,ih h.2⟩
theorem Fi {ws:List aV} (h:cC ws=true) {a b:aV} (ha:a∈ws) (hb:b∈ws) (e:a.score.version=b.score.version):a=b:=by
 unfold cC at h;rw[zA0] at h;have hp:=zCc.1 (CS h.1);obtain⟨i,hi,rfl⟩:=zAu.1 ha;obtain⟨j,hj,rfl⟩:=zAu.1 hb;rcases Nat.lt_trichotomy i j with h1|h1|h1
 · have:=hp i j hi hj h1;omega
 · subst h1;rfl
 · have:=hp j i hj hi h1;omega
theorem Hp {L:Lib} {ds:List Dec} {l:List Std} {time:Int} {c:Pl.Call} (A:o8 L ds l time c) {s:Std} (hs:s∈l) {j:Nat} (hj:j<L.eds.length) :
 bW (k9 L.ax (atR L.ax ds s.known time).1.version) (L.eds.getD j default) (atR L.ax ds s.known time).1=true∧bG (k9 L.ax (atR L.ax ds s.known time).1.version)=true:=by
 obtain⟨h1,hr,k,hk,hkl,hat⟩:=mc (eR A hs);have hsc:k9 L.ax (atR L.ax ds s.known time).1.version=(L.ax.getD k default).score:=by unfold k9;rw[hk,zAe,hat]
 have hwo:=(HW h1).2;obtain⟨w,hw,hv,hb⟩:=hr.work;have bL:=hr.form;generalize (atR L.ax ds s.known time).1=r at *;have hm:L.ax.getD k default∈L.ax:=bD hkl;have hver:(L.ax.getD k default).score.version=r.version:=by
  have hge:0≤fg (bp L.ax) r.version:=oM;obtain⟨k',hk',uc,hp⟩:=bY (p:=fun x:Score=>x.version==r.version) (l:=bp L.ax) hge;have e1:fg (bp L.ax) r.version=k':=hk';have e2:k'=k:=oM;subst e2;have h9:=hp.1;rw[show(bp L.ax).getD k' default=(L.ax.getD k' default).score from hat] at h9;exact beq_iff_eq.1 h9
 have hww:w=L.ax.getD k default:=Fi hwo hw hm (hv.trans hver.symm);have hso:=o9 A.lib _ hm;rw[hsc];refine⟨?_,hso⟩;unfold bW tz;rw[hso,(mN ((A2 A.lib).2 j hj)).1,bL,hver,hb,hww];simp
theorem vV {L:Lib} {ds:List Dec} {l:List Std} {time:Int} {c:Pl.Call} (A:o8 L ds l time c) {s:Std} (hs:s∈l) (h:(cI L.ax L.eds ds s time c).2=0) :
 gY (cI L.ax L.eds ds s time c).1=true∧reason (k9 L.ax (atR L.ax ds s.known time).1.version) (atR L.ax ds s.known time).1 (cI L.ax L.eds ds s time c).1=0:=by
 unfold cI at h ⊢;rw[eR A hs,sI A.lib] at h ⊢;rw[if_neg dCd,if_neg dCd] at h ⊢;by_cases he:dg L.eds s.ed<0
 · rw[if_pos he] at h;cases h
 rw[if_neg he] at h ⊢;obtain⟨_,_,_,h4,h5,_⟩:=Cs h;exact⟨h4,h5⟩
theorem Fj {L:Lib} {ds:List Dec} {time:Int} {c:Pl.Call} {s:Std} (h:(cI L.ax L.eds ds s time c).2≠0):(cI L.ax L.eds ds s time c).1=cJ:=by
 unfold cI at h ⊢;by_cases h1:eG L.ax ds s time≠0
 · rw[if_pos h1]
 rw[if_neg h1] at h ⊢;by_cases h2:oY L.eds=false
 · rw[if_pos h2]
 rw[if_neg h2] at h ⊢;by_cases h3:dg L.eds s.ed<0
 · rw[if_pos h3]
 rw[if_neg h3] at h ⊢;exact Ct h
theorem Ac {L:Lib} {ds:List Dec} {l:List Std} {time:Int} {c:Pl.Call} (A:o8 L ds l time c) {s t:Std} (hs:s∈l) (ht:t∈l) (hk:s.known=t.known) (he:s.ed=t.ed):cI L.ax L.eds ds s time c=cI L.ax L.eds ds t time c:=by
 unfold cI;rw[eR A hs,eR A ht,hk,he]
theorem rB {L:Lib} {ds:List Dec} {l:List Std} {time:Int} {c:Pl.Call} (A:o8 L ds l time c) {s:Std} (hs:s∈l) (he:dg L.eds s.ed<0):(cI L.ax L.eds ds s time c).2=4:=by
 unfold cI;rw[eR A hs,sI A.lib,if_neg dCd,if_neg dCd,if_pos he]
theorem qs {L:Lib} {ds:List Dec} {l:List Std} {time:Int} {c:Pl.Call} (A:o8 L ds l time c) {s t:Std} (hs:s∈l) (ht:t∈l) (hk:t.known=s.known) (h:(cI L.ax L.eds ds s time c).2=0) {j:Nat} (hj:dg L.eds t.ed=j) (hjl:j<L.eds.length) :
 iy (k9 L.ax (atR L.ax ds s.known time).1.version) (L.eds.getD j default) (atR L.ax ds t.known time).1 (cI L.ax L.eds ds s time c).1=(fa,false,0) ∨
 ∃d,iy (k9 L.ax (atR L.ax ds s.known time).1.version) (L.eds.getD j default) (atR L.ax ds t.known time).1 (cI L.ax L.eds ds s time c).1=(d,true,0)∧d.letter.size≤12∧cI L.ax L.eds ds t time d=((cI L.ax L.eds ds s time c).1,0):=by
 obtain⟨h1,h2⟩:=vV A hs h;have hr:=(Hp A hs hjl).1;rw[hk];rcases E4 hr h1 h2 with h9|⟨d,h9,_,h8,h7⟩
 · exact .inl h9
 · refine .inr ⟨d,h9,h7,?_⟩;generalize (cI L.ax L.eds ds s time c).1=W at *;unfold cI;rw[eR A ht,sI A.lib,if_neg dCd,if_neg dCd,if_neg oM,hj,zAe,hk];exact h8
end Go.Proofs.YthiaimakjmhegaaGreatDoor.Top
