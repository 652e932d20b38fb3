/- Parts of the proof. No statement is proved here. -/
import Derived.Test.YthiaimakjmhegaaGreatDoorP27
set_option linter.unusedVariables false
set_option linter.unusedSimpArgs false
set_option maxHeartbeats 16000000
set_option maxRecDepth 20000
namespace Go.Proofs.YthiaimakjmhegaaGreatDoor.Top
open Go.Ab Go.Pl De Pl
attribute [local irreducible] AWP AOps EStep AQ PStep PRun PCall TCall VCall
instance:Inhabited Ed.ah:=⟨⟨0,0,[],[]⟩⟩
theorem CC (a b c:Int):PCall Tryz.prog 154 [.int a,.int b,.int c] (.b (inB a b c)):=by
 refine PCall.body Tryz.func154 rfl rfl Tryz.ntmps154 rfl rfl ?_
 repeat' (first|refine qS ?_|apply sqW|refine rgK fun U V=>?_|(refine aN V ?_;clear V U)|refine rtW ?_)
 exact⟨.inr rfl,Ent.b rfl⟩
def wkB (w:aV):Bool:=bG w.score&&aW w.form&&w.form.bars==(w.score.bars.length:Int)&&fQ w.score.bars w.gK
theorem zZ (w:aV) (hw:WIn w) (ht:w.gK.length≤1000000000):PCall Tryz.prog 94 [.agg (aU w)] (.b (wkB w)):=by
 have h1:=_root_.Go.Proofs.YthiaimakjmhegaaGreatDoor.dz w.score hw.score;have h2:=gD w.form hw.form;have hb:w.score.bars.length≤1000000000:=by have:=hw.score;unfold Score.Small at this;omega
 have h3:=zX w.score.bars w.gK hb ht;refine PCall.body Tryz.func94 rfl rfl Tryz.ntmps94 rfl rfl ?_
 repeat' (first|refine qP ?_ (h:=fun hg=>by first|exact aa|exact pc h1|exact pc h2|exact pc h3|exact af)|apply sqW|refine rgK fun U V=>?_|(refine aN V ?_;clear V U)|refine aB ?_|refine rtW ?_)
 exact⟨.inr rfl,Ent.b rfl⟩
theorem mL (n:Nat) (fv:AV) (p:Nat→Bool) (hp:∀i,i<n→(∀j,j<i→p j=true)→bF Tryz.prog fv [.int (i:Nat)] (.b (p i))) (hn:n≤1000000000) :
 PCall Tryz.prog 92 [.int (n:Nat),fv] (.b ((List.range n).all p)):=by
 refine PCall.di [1] Tryz.func92 rfl rfl Tryz.ntmps92 rfl rfl ?_
 repeat' (first|refine qS ?_|apply sqW|refine rgK fun U V=>?_|(refine aN V ?_;clear V U)|refine blK ?_)
 refine lpW (ι:=Nat) (fun k=>[(1,.ext fv),(6,.int n),(7,.int k)]) (fun _=>[]) (fun k=>k≤n∧∀j,j<k→p j=true) (fun k=>n - k) 0 ⟨nZl _,fun j h=>absurd h oM⟩ ⟨rfl,rfl,rfl,tI⟩ rfl ?_;rintro k ⟨hk,au⟩;by_cases hlt:k<n
 · have hv:=hp k hlt au
   repeat' (first|refine qP ?_ (h:=fun hg=>by first|exact aa|exact PRun.fx (hv) rfl rfl nd rfl nds|fail)|apply sqW|refine rgK fun U V=>?_|(refine aN V ?_;clear V U)|refine cX ?_ ?_<;>intro hc<;>try simp only[dE] at hc|refine blK ?_|refine exW ?_|refine skW ?_|refine rtW ?_)
   all_goals first|(exfalso;omega)|skip
   · refine⟨.inr rfl,?_⟩;have e:(List.range n).all p=false:=by
      rw[zC6];exact⟨k,zAs.2 hlt,by simpa using hc⟩
     rw[e];exact fun _ _ h=>h
   · exact⟨k+1,⟨oM,fun j hj=>by
      rcases nLg j k with h|h
      · exact au j h
      · obtain rfl:j=k:=oM;simpa using hc⟩,oM,⟨rfl,rfl,rfl,tI⟩,rfl⟩
 · repeat' (first|refine qS ?_|apply sqW|refine rgK fun U V=>?_|(refine aN V ?_;clear V U)|refine cX ?_ ?_<;>intro hc<;>try simp only[dE] at hc|refine blK ?_|refine exW ?_|refine skW ?_|refine rtW ?_)
   all_goals first|(exfalso;omega)|skip
   refine⟨.inr rfl,?_⟩;have e:(List.range n).all p=true:=zA4.2 fun j hj=>au j (by have:=zAs.1 hj;omega)
   rw[e];exact fun _ _ h=>h
structure Bk where
 k:FuncId
 aQ:List (List AV)
 res:Bool
instance:Inhabited Bk:=⟨⟨0,[],false⟩⟩
def wJ (c:Bk):List AV:=[.fn (.func c.k) [] (c.aQ.map AV.iptr)]
theorem E9 (c:Bk) (hc0:PCall Tryz.prog c.k (c.aQ.map AV.iptr) (.b c.res)):PCall Tryz.prog 104 [.fn (.func c.k) [] (c.aQ.map AV.iptr)] (.b (!c.res)):=by
 have hv:VCall Tryz.prog (.fn (.func c.k) [] (c.aQ.map AV.iptr)) [] ([]:ae) (fun rv s=>rv=.b c.res∧s=[]):=by
  have h2:=PCall.lf (σ:=[]) hc0 fun v hv=>by
   obtain⟨cs,_,rfl⟩:=zAq.1 hv;rfl
  exact TCall.val (first:=[]) (avs:=[]) h2
 refine PCall.body Tryz.func104 rfl rfl Tryz.ntmps104 rfl rfl ?_
 repeat' (first|refine qP ?_ (h:=fun hg=>by first|exact aa|exact PRun.kA (hv) rfl rfl nd rfl rfl nds|fail)|apply sqW|refine rgK fun U V=>?_|(refine aN V ?_;clear V U)|refine rtW ?_)
 exact⟨.inr rfl,Ent.b rfl⟩
theorem Ky (f:FuncId) (aQ:List (List AV)):unb 4 (.fn (.func f) [] (aQ.map AV.iptr))=.fn (.func f) [] (aQ.map AV.iptr):=by
 show AV.fn (.func f) [] ((aQ.map AV.iptr).map (unb 3))=_;rw[zD9];rfl
def uM (c:Bk):Bool:=!c.res
theorem CD (l:List Bk) (hl:l.length≤1000000000) (hf:∀k,k<l.length→(∀j,j<k→(l.getD j default).res=true)→PCall Tryz.prog (l.getD k default).k ((l.getD k default).aQ.map AV.iptr) (.b (l.getD k default).res)) :
 PCall Tryz.prog 158 [.sl 1 (l.map wJ) .no,.fn (.func 104) [] []] (.int (az uM l)):=by
 refine PCall.body Tryz.func158 rfl rfl Tryz.ntmps158 rfl rfl ?_
 repeat' (first|refine qT ?_|apply sqW|refine rgK fun U V=>?_|(refine aN V ?_;clear V U)|refine blK ?_)
 refine lpD (ι:=Nat) (fun k=>[(0,.sl 1 (l.map wJ) .no),(1,.fn (.func 104) [] []),(7,.int l.length),(8,.int k)]) (fun _=>[]) (fun k=>k≤l.length∧∀j,j<k→uM (l.getD j default)=false) (fun k=>l.length - k) 0 (fun _=>rfl) 0 ⟨nZl _,fun j h=>absurd h oM⟩ ⟨rfl,rfl,rfl,rfl,tI⟩ rfl (fun _ _=>rfl) (fun _ _=>rfl) ?_;rintro k ⟨hk,au⟩;by_cases hlt:k<l.length
 · obtain⟨c,hck⟩:∃c,l.getD k default=c:=⟨_,rfl⟩
   have hv:=hf k hlt fun j hj=>by simpa[uM] using au j hj
   rw[hck] at hv;have hv:=E9 c hv
   repeat' (first|refine qP ?_ (h:=fun hg=>by first|exact iX wJ l ((k:Nat):Int) hck (hb:=oM)|exact aa|exact pcW hv rfl rfl nd (congrArg (fun z=>[z]) (Ky c.k c.aQ)) nds|fail)|apply sqW|refine rgK fun U V=>?_|(refine aN V ?_;clear V U)|refine cX ?_ ?_<;>intro hc<;>try simp only[dE] at hc|refine blK ?_|refine exW ?_|refine skW ?_|refine rtW ?_)
   all_goals first|(exfalso;omega)|skip
   · refine⟨.inr rfl,Ent.int ?_⟩;exact(bP hlt (by rw[hck];exact hc) au).symm
   · exact⟨k+1,⟨oM,fun j hj=>aH au (by rw[hck];exact hc) hj⟩,oM,⟨rfl,rfl,rfl,rfl,tI⟩,rfl⟩
 · repeat' (first|refine qT ?_|apply sqW|refine rgK fun U V=>?_|(refine aN V ?_;clear V U)|refine cX ?_ ?_<;>intro hc<;>try simp only[dE] at hc|refine blK ?_|refine exW ?_|refine skW ?_|refine rtW ?_)
   all_goals first|(exfalso;omega)|skip
   exact⟨.inr rfl,Ent.int (bX fun j hj=>au j oM).symm⟩
theorem CE (l:List Bk) (hl:l.length≤1000000000) (hf:∀k,k<l.length→(∀j,j<k→(l.getD j default).res=true)→PCall Tryz.prog (l.getD k default).k ((l.getD k default).aQ.map AV.iptr) (.b (l.getD k default).res)) :
 PCall Tryz.prog 103 [.sl 1 (l.map wJ) .no,.fn (.func 104) [] []] (.b (decide (az uM l≥0))):=by
 have h:=CD l hl hf;refine PCall.body Tryz.func103 rfl rfl Tryz.ntmps103 rfl rfl ?_
 repeat' (first|refine qP ?_ (h:=fun hg=>by first|exact aa|exact pc h|fail)|apply sqW|refine rgK fun U V=>?_|(refine aN V ?_;clear V U)|refine rtW ?_)
 exact⟨.inr rfl,Ent.b rfl⟩
def gS (ws:List aV) (v:Int):Int:=az (fJ v) ws
def dg (es:List Ed.ah) (id:Int):Int:=az (fun e:Ed.ah=>e.id==id) es
theorem Fa (w:aV):PCall Tryz.prog 214 [.agg (aU w)] (.int w.score.version):=by
 refine PCall.body Tryz.func214 rfl rfl Tryz.ntmps214 rfl rfl ?_
 repeat' (first|refine qS ?_|apply sqW|refine rgK fun U V=>?_|(refine aN V ?_;clear V U)|refine aB ?_|refine rtW ?_)
 exact⟨.inr rfl,Ent.int rfl⟩
theorem Fb (e:Ed.ah):PCall Tryz.prog 216 [.agg (Ed.aF e)] (.int e.id):=by
 refine PCall.body Tryz.func216 rfl rfl Tryz.ntmps216 rfl rfl ?_
 repeat' (first|refine qS ?_|apply sqW|refine rgK fun U V=>?_|(refine aN V ?_;clear V U)|refine aB ?_|refine rtW ?_)
 exact⟨.inr rfl,Ent.int rfl⟩
theorem Hd (w:aV) (v:Int):PCall Tryz.prog 269 [.agg (aU w),.iptr [.fn (.func 214) [] []],.iptr [.int v]] (.b (w.score.version==v)):=by
 refine PCall.body Tryz.func269 rfl rfl Tryz.ntmps269 rfl rfl ?_
 repeat' (first|refine qS ?_|apply sqW|refine rgK fun U V=>?_|(refine aN V ?_;clear V U)|refine aB ?_|refine rtW ?_|refine kD fun U V=>?_|(refine aqN (V _ ?_);clear V U)|refine aqQ rfl rfl (fun hg=>by first|exact aa|exact pc (Fa w)|fail) (by exact rfl) ?_)
 exact⟨.inr rfl,Ent.b rfl⟩
theorem He (e:Ed.ah) (v:Int):PCall Tryz.prog 270 [.agg (Ed.aF e),.iptr [.fn (.func 216) [] []],.iptr [.int v]] (.b (e.id==v)):=by
 refine PCall.body Tryz.func270 rfl rfl Tryz.ntmps270 rfl rfl ?_
 repeat' (first|refine qS ?_|apply sqW|refine rgK fun U V=>?_|(refine aN V ?_;clear V U)|refine aB ?_|refine rtW ?_|refine kD fun U V=>?_|(refine aqN (V _ ?_);clear V U)|refine aqQ rfl rfl (fun hg=>by first|exact aa|exact pc (Fb e)|fail) (by exact rfl) ?_)
 exact⟨.inr rfl,Ent.b rfl⟩
theorem oX (l:List Ed.ah) (fv:AV) (p:Ed.ah→Bool) (hp:∀x∈l,bF Tryz.prog fv [.agg (Ed.aF x)] (.b (p x))) (hl:l.length≤1000000000) :
 PCall Tryz.prog 73 [.sl 4 (l.map Ed.aF) .no,fv] (.int (az p l)):=by
 refine PCall.di [1] Tryz.func73 rfl rfl Tryz.ntmps73 rfl rfl ?_
 repeat' (first|refine qT ?_|apply sqW|refine rgK fun U V=>?_|(refine aN V ?_;clear V U)|refine blK ?_)
 refine lpW (ι:=Nat) (fun k=>[(0,.sl 4 (l.map Ed.aF) .no),(1,.ext fv),(7,.int l.length),(8,.int k)]) (fun _=>[]) (fun k=>k≤l.length∧∀j,j<k→p (l.getD j default)=false) (fun k=>l.length - k) 0 ⟨nZl _,fun j h=>absurd h oM⟩ ⟨rfl,rfl,rfl,rfl,tI⟩ rfl ?_;rintro k ⟨hk,au⟩;by_cases hlt:k<l.length
 · repeat' (first|refine qP ?_ (h:=fun hg=>by first|exact aa|exact PRun.fx (hp _ (bD hlt)) rfl rfl nd rfl nds|exact af)|apply sqW|refine rgK fun U V=>?_|(refine aN V ?_;clear V U)|refine cX ?_ ?_<;>intro hc<;>try simp only[dE] at hc|refine blK ?_|refine exW ?_|refine skW ?_|refine rtW ?_)
   · refine⟨.inr rfl,?_⟩;rw[show az p l=k from bP hlt hc au];exact fun _ _ h=>h
   · exact⟨k+1,⟨oM,fun j hj=>aH au hc hj⟩,oM,⟨rfl,rfl,rfl,rfl,tI⟩,rfl⟩
   · exfalso;omega
 · repeat' (first|refine qT ?_|apply sqW|refine rgK fun U V=>?_|(refine aN V ?_;clear V U)|refine cX ?_ ?_<;>intro hc<;>try simp only[dE] at hc|refine blK ?_|refine exW ?_|refine skW ?_|refine rtW ?_)
   · exfalso;omega
   · refine⟨.inr rfl,?_⟩;rw[show az p l = -1 from bX fun j hj=>au j oM];exact fun _ _ h=>h
theorem CF (l:List aV) (hl:l.length≤1000000000) (v:Int) :
 PCall Tryz.prog 213 [.sl 12 (l.map aU) .no,.int v,.fn (.func 214) [] []] (.int (gS l v)):=by
 have h1:=tJ l (.fn (.func 269) [] [.iptr [.fn (.func 214) [] []],.iptr [.int v]]) (fJ v) (fun x _=>⟨_,[],_,rfl,Hd x v⟩) hl;refine PCall.bN ab Tryz.func213 rfl rfl Tryz.ntmps213 rfl ?_
 repeat' (first|refine qP ?_ (h:=fun hg=>by first|exact aa|exact pbW (h1) rfl rfl nd rfl rfl nds|fail)|apply sqW|refine rgK fun U V=>?_|(refine aN V ?_;clear V U)|refine aB ?_|refine rtW ?_)
 exact⟨.inr rfl,_,rfl,Ent.int rfl⟩
theorem CG (l:List Ed.ah) (hl:l.length≤1000000000) (v:Int) :
 PCall Tryz.prog 215 [.sl 4 (l.map Ed.aF) .no,.int v,.fn (.func 216) [] []] (.int (dg l v)):=by
 have h1:=oX l (.fn (.func 270) [] [.iptr [.fn (.func 216) [] []],.iptr [.int v]]) (fun e=>e.id==v) (fun x _=>⟨_,[],_,rfl,He x v⟩) hl;refine PCall.bN ab Tryz.func215 rfl rfl Tryz.ntmps215 rfl ?_
 repeat' (first|refine qP ?_ (h:=fun hg=>by first|exact aa|exact pbW (h1) rfl rfl nd rfl rfl nds|fail)|apply sqW|refine rgK fun U V=>?_|(refine aN V ?_;clear V U)|refine aB ?_|refine rtW ?_)
 exact⟨.inr rfl,_,rfl,Ent.int rfl⟩
structure kM where
 id:Int
 part:Int
 ed:Int
 version:Int
 CH:Int
 Kz:Nat
instance:Inhabited kM:=⟨⟨0,0,0,0,0,0⟩⟩
def je (s:kM):List AV:=[.int s.id,.int s.part,.int s.ed,.int s.version,.int s.CH,.prim (.int .u64 (s.Kz:Nat))]
def kN (ws:List aV) (es:List Ed.ah) (ss:List kM) (ls:AV):List AV:=[.sl 12 (ws.map aU) .no,.sl 4 (es.map Ed.aF) .no,.sl 6 (ss.map je) .no,ls]
theorem tT (ws:List aV) (es:List Ed.ah) (ss:List kM) (q:List (List AV)) (hl:ws.length≤1000000000) (v:Int):PCall Tryz.prog 151 [.agg (kN ws es ss (.sl 5 q .no)),.int v] (.int (gS ws v)):=by
 have h:=CF ws hl v;refine PCall.body Tryz.func151 rfl rfl Tryz.ntmps151 rfl rfl ?_
 repeat' (first|refine qP ?_ (h:=fun hg=>by first|exact aa|exact pc h|fail)|apply sqW|refine rgK fun U V=>?_|(refine aN V ?_;clear V U)|refine aB ?_|refine rtW ?_)
 exact⟨.inr rfl,Ent.int rfl⟩
theorem yS (ws:List aV) (es:List Ed.ah) (ss:List kM) (q:List (List AV)) (hl:es.length≤1000000000) (v:Int):PCall Tryz.prog 152 [.agg (kN ws es ss (.sl 5 q .no)),.int v] (.int (dg es v)):=by
 have h:=CG es hl v;refine PCall.body Tryz.func152 rfl rfl Tryz.ntmps152 rfl rfl ?_
 repeat' (first|refine qP ?_ (h:=fun hg=>by first|exact aa|exact pc h|fail)|apply sqW|refine rgK fun U V=>?_|(refine aN V ?_;clear V U)|refine aB ?_|refine rtW ?_)
 exact⟨.inr rfl,Ent.int rfl⟩
def iY (ws:List aV) (es:List Ed.ah) (i:Nat):Bool :=
 decide (gS ws (es.getD i default).version≥0)&&dg es (es.getD i default).id==(i:Int)&&Ed.yc (ws.getD (gS ws (es.getD i default).version).toNat default).score (es.getD i default)
theorem Fc (ws:List aV) (es:List Ed.ah) (ss:List kM) (q:List (List AV)) (hl:ws.length≤1000000000) (hw:∀w∈ws,WIn w) (he:es.length≤1000000000) (hf:∀e∈es,Ed.Wf e) (i:Nat) (hi:i<es.length) :
 PCall Tryz.prog 96 [.agg (kN ws es ss (.sl 5 q .no)),.int (i:Nat)] (.b (iY ws es i)):=by
 obtain⟨e,hie⟩:∃e,es.getD i default=e:=⟨_,rfl⟩
 have h1:=tT ws es ss q hl e.version;have h2:=yS ws es ss q he e.id;unfold iY;rw[hie];rcases Int.lt_or_le (gS ws e.version) 0 with hn|hn
 · have e1:decide (gS ws e.version≥0)=false:=decide_eq_false oM;rw[e1];generalize gS ws e.version=W at *;refine PCall.body Tryz.func96 rfl rfl Tryz.ntmps96 rfl rfl ?_
   repeat' (first|refine qP ?_ (h:=fun hg=>by first|exact PRun.eq (v:=.iptr (Ed.aF (es.getD ((i:Nat):Int).toNat default))) (piW ab rfl rfl nd rfl nd rfl rfl oM) (congrArg (fun x=>AV.iptr (Ed.aF x)) (show es.getD ((i:Nat):Int).toNat default=e from hie))|exact aa|exact pc h1|fail)|apply sqW|refine rgK fun U V=>?_|(refine aN V ?_;clear V U)|refine aB ?_|refine aS ?_|refine aA ?_|refine rtW ?_|refine kD fun U V=>?_|(refine aqN (V _ ?_);clear V U)|refine aqQ rfl rfl (fun hg=>by first|exact PRun.eq (v:=.b (decide (W≥0))) (PRun.cZ rfl rfl nd rfl nd rfl) (show AV.b (decide (W≥0))=AV.b false from congrArg AV.b e1)|exact aa|exact(Bool.noConfusion (show false=true from hg):PRun _ _ _ _ (.b false))|fail) (by exact rfl) ?_)
   exact⟨.inr rfl,Ent.b rfl⟩
 · obtain⟨k,hk,hlt,_⟩:=bY (p:=fJ e.version) (l:=ws) (by have:gS ws e.version=az (fJ e.version) ws:=rfl;omega);have hk':gS ws e.version=k:=hk;obtain⟨w,hwk⟩:∃w,ws.getD k default=w:=⟨_,rfl⟩
   have hin:=hw w (hwk▸bD hlt);have h3:=Ed.zM w.score hin.score e (hf e (hie▸bD hi));rw[hk'] at h1 ⊢;rw[zAe,hwk];refine PCall.body Tryz.func96 rfl rfl Tryz.ntmps96 rfl rfl ?_
   repeat' (first|refine qP ?_ (h:=fun hg=>by first|exact PRun.eq (v:=.iptr (Ed.aF (es.getD ((i:Nat):Int).toNat default))) (piW ab rfl rfl nd rfl nd rfl rfl oM) (congrArg (fun x=>AV.iptr (Ed.aF x)) (show es.getD ((i:Nat):Int).toNat default=e from hie))|exact aa|exact pc h1|fail)|apply sqW|refine rgK fun U V=>?_|(refine aN V ?_;clear V U)|refine aB ?_|refine aS ?_|refine aA ?_|refine rtW ?_|refine kD fun U V=>?_|(refine aqN (V _ ?_);clear V U)|refine aqQ rfl rfl (fun hg=>by first|exact iX aU ws ((k:Nat):Int) hwk (hb:=oM)|exact aa|exact pc h2|exact pc h3|fail) (by exact rfl) ?_)
   exact⟨.inr rfl,Ent.b rfl⟩
def tU (ws:List aV) (es:List Ed.ah) (ss:List kM) (i:Nat):Bool :=
 (ss.getD i default).id==(i:Int)+1&&decide (0≤dg es (ss.getD i default).ed)&&(ss.getD i default).version==(es.getD (dg es (ss.getD i default).ed).toNat default).version&&inB (ss.getD i default).CH 1 1000
  && ((oD (ws.getD (gS ws (ss.getD i default).version).toNat default).score (ss.getD i default).part).2.2==0&&(oD (ws.getD (gS ws (ss.getD i default).version).toNat default).score (ss.getD i default).part).2.1)
theorem Fe (ws:List aV) (es:List Ed.ah) (ss:List kM) (q:List (List AV)) (hl:ws.length≤1000000000) (hw:∀w∈ws,WIn w) (he:es.length≤1000000000) (hss:ss.length≤1000000000) (L3:∀j,j<es.length→iY ws es j=true) (i:Nat) (hi:i<ss.length) :
 PCall Tryz.prog 98 [.agg (kN ws es ss (.sl 5 q .no)),.int (i:Nat)] (.b (tU ws es ss i)):=by
 obtain⟨x,hix⟩:∃x,ss.getD i default=x:=⟨_,rfl⟩
 have h1:=yS ws es ss q he x.ed;have hp:=CC x.CH 1 1000;unfold tU;rw[hix];by_cases hid:x.id=(i:Int)+1
 · have e0:(x.id==(i:Int)+1)=true:=by simp[hid]
   rw[e0,zAy];have hne:(x.id != (i:Int)+1)=false:=by unfold bne;rw[e0];rfl
   by_cases hk0:dg es x.ed<0
   · rw[decide_eq_false oM];generalize dg es x.ed=W at *;refine PCall.body Tryz.func98 rfl rfl Tryz.ntmps98 rfl rfl ?_
     repeat' (first|refine qP ?_ (h:=fun hg=>by first|exact iX je ss ((i:Nat):Int) hix (hb:=oM)|exact aa|exact pc h1|fail)|apply sqW|refine rgK fun U V=>?_|(refine aN V ?_;clear V U)|refine aB ?_|refine aS ?_|refine aA ?_|refine cX ?_ ?_<;>intro hc<;>try simp only[dE] at hc|refine skW ?_|refine rtW ?_|refine kD fun U V=>?_|(refine aqN (V _ ?_);clear V U)|refine aqQ rfl rfl (fun hg=>by first|exact PRun.eq (v:=.b (decide (W<0))) (PRun.cZ rfl rfl nd rfl nd rfl) (show AV.b (decide (W<0))=AV.b true from congrArg AV.b (decide_eq_true oM))|exact PRun.eq (v:=.b (x.id != ((i:Nat):Int)+1)) (PRun.cZ rfl rfl nd rfl nd rfl) (congrArg AV.b hne)|exact aa|exact(Bool.noConfusion (show false=true from hg):PRun _ _ _ _ (.b false))|fail) (by exact rfl) ?_)
     all_goals (first|(exfalso;simp at hc;done)|skip)
     exact⟨.inr rfl,Ent.b rfl⟩
   · obtain⟨k,hk,hkl,_⟩:=bY (p:=fun e:Ed.ah=>e.id==x.ed) (l:=es) (by have:dg es x.ed=az (fun e:Ed.ah=>e.id==x.ed) es:=rfl;omega);have hk:dg es x.ed=k:=hk;obtain⟨e,hek⟩:∃e,es.getD k default=e:=⟨_,rfl⟩
     rw[hk] at h1;rw[hk,decide_eq_true (Int.natCast_nonneg k),zAy,zAe,hek];by_cases hv:x.version=e.version
     · have hwk:0≤gS ws x.version:=by
        have:=L3 k hkl;unfold iY at this;rw[hek,←hv] at this;simp only[zA0,dEt] at this;exact this.1.1
       obtain⟨j,hj,hjl,_⟩:=bY (p:=fJ x.version) (l:=ws) (by have:gS ws x.version=az (fJ x.version) ws:=rfl;omega);have hj:gS ws x.version=j:=hj;obtain⟨w,hwj⟩:∃w,ws.getD j default=w:=⟨_,rfl⟩
       have hin:=hw w (hwj▸bD hjl);have h2:=tT ws es ss q hl x.version;have h3:=BB w.score hin.score x.part;rw[hj] at h2;rw[hj,zAe,hwj];generalize oD w.score x.part=R at *;have e1:(x.version==e.version)=true:=by simp[hv]
       rw[e1,zAy];have hnv:(x.version != e.version)=false:=by unfold bne;rw[e1];rfl
       cases hpg:inB x.CH 1 1000 with
       | false =>
         rw[hpg] at hp;rw[zBu];refine PCall.body Tryz.func98 rfl rfl Tryz.ntmps98 rfl rfl ?_
         repeat' (first|refine qP ?_ (h:=fun hg=>by first|exact iX je ss ((i:Nat):Int) hix (hb:=oM)|exact aa|exact pc h1|fail)|apply sqW|refine rgK fun U V=>?_|(refine aN V ?_;clear V U)|refine aB ?_|refine aS ?_|refine aA ?_|refine cX ?_ ?_<;>intro hc<;>try simp only[dE] at hc|refine skW ?_|refine rtW ?_|refine kD fun U V=>?_|(refine aqN (V _ ?_);clear V U)|refine aqQ rfl rfl (fun hg=>by first|exact PRun.eq (v:=.b (x.version != e.version)) (PRun.cZ rfl rfl nd rfl nd rfl) (congrArg AV.b hnv)|exact PRun.eq (v:=.iptr (Ed.aF (es.getD ((k:Nat):Int).toNat default))) (piW ab rfl rfl nd rfl nd rfl rfl oM) (congrArg (fun x=>AV.iptr (Ed.aF x)) (show es.getD ((k:Nat):Int).toNat default=e from hek))|exact PRun.eq (v:=.b (decide (((k:Nat):Int)<0))) (PRun.cZ rfl rfl nd rfl nd rfl) (show AV.b (decide (((k:Nat):Int)<0))=AV.b false from congrArg AV.b (decide_eq_false oM))|exact PRun.eq (v:=.b (x.id != ((i:Nat):Int)+1)) (PRun.cZ rfl rfl nd rfl nd rfl) (congrArg AV.b hne)|exact aa|exact pc hp|fail) (by exact rfl) ?_)
         all_goals (first|(exfalso;simp at hc;done)|skip)
         exact⟨.inr rfl,Ent.b rfl⟩
       | true =>
         rw[hpg] at hp;rw[zAy];refine PCall.body Tryz.func98 rfl rfl Tryz.ntmps98 rfl rfl ?_
         repeat' (first|refine qP ?_ (h:=fun hg=>by first|exact iX je ss ((i:Nat):Int) hix (hb:=oM)|exact aa|exact pc h1|fail)|apply sqW|refine rgK fun U V=>?_|(refine aN V ?_;clear V U)|refine aB ?_|refine aS ?_|refine aA ?_|refine cX ?_ ?_<;>intro hc<;>try simp only[dE] at hc|refine skW ?_|refine rtW ?_|refine kD fun U V=>?_|(refine aqN (V _ ?_);clear V U)|refine aqQ rfl rfl (fun hg=>by first|exact iX aU ws ((j:Nat):Int) hwj (hb:=oM)|exact PRun.eq (v:=.b (x.version != e.version)) (PRun.cZ rfl rfl nd rfl nd rfl) (congrArg AV.b hnv)|exact PRun.eq (v:=.iptr (Ed.aF (es.getD ((k:Nat):Int).toNat default))) (piW ab rfl rfl nd rfl nd rfl rfl oM) (congrArg (fun x=>AV.iptr (Ed.aF x)) (show es.getD ((k:Nat):Int).toNat default=e from hek))|exact PRun.eq (v:=.b (decide (((k:Nat):Int)<0))) (PRun.cZ rfl rfl nd rfl nd rfl) (show AV.b (decide (((k:Nat):Int)<0))=AV.b false from congrArg AV.b (decide_eq_false oM))|exact PRun.eq (v:=.b (x.id != ((i:Nat):Int)+1)) (PRun.cZ rfl rfl nd rfl nd rfl) (congrArg AV.b hne)|exact aa|exact pc hp|exact pc h2|exact pc h3|fail) (by exact rfl) ?_)
         all_goals (first|(exfalso;simp at hc;done)|skip)
         exact⟨.inr rfl,Ent.b rfl⟩
     · have e1:(x.version==e.version)=false:=by simp[hv]
       have hnv:(x.version != e.version)=true:=by unfold bne;rw[e1];rfl
       rw[e1,zBu,zBu];refine PCall.body Tryz.func98 rfl rfl Tryz.ntmps98 rfl rfl ?_
       repeat' (first|refine qP ?_ (h:=fun hg=>by first|exact iX je ss ((i:Nat):Int) hix (hb:=oM)|exact aa|exact pc h1|fail)|apply sqW|refine rgK fun U V=>?_|(refine aN V ?_;clear V U)|refine aB ?_|refine aS ?_|refine aA ?_|refine cX ?_ ?_<;>intro hc<;>try simp only[dE] at hc|refine skW ?_|refine rtW ?_|refine kD fun U V=>?_|(refine aqN (V _ ?_);clear V U)|refine aqQ rfl rfl (fun hg=>by first|exact PRun.eq (v:=.b (x.version != e.version)) (PRun.cZ rfl rfl nd rfl nd rfl) (congrArg AV.b hnv)|exact PRun.eq (v:=.iptr (Ed.aF (es.getD ((k:Nat):Int).toNat default))) (piW ab rfl rfl nd rfl nd rfl rfl oM) (congrArg (fun x=>AV.iptr (Ed.aF x)) (show es.getD ((k:Nat):Int).toNat default=e from hek))|exact PRun.eq (v:=.b (decide (((k:Nat):Int)<0))) (PRun.cZ rfl rfl nd rfl nd rfl) (show AV.b (decide (((k:Nat):Int)<0))=AV.b false from congrArg AV.b (decide_eq_false oM))|exact PRun.eq (v:=.b (x.id != ((i:Nat):Int)+1)) (PRun.cZ rfl rfl nd rfl nd rfl) (congrArg AV.b hne)|exact aa|exact(Bool.noConfusion (show false=true from hg):PRun _ _ _ _ (.b false))|fail) (by exact rfl) ?_)
       all_goals (first|(exfalso;simp at hc;done)|skip)
       exact⟨.inr rfl,Ent.b rfl⟩
 · have e0:(x.id==(i:Int)+1)=false:=by simp[hid]
   have hne:(x.id != (i:Int)+1)=true:=by unfold bne;rw[e0];rfl
   rw[e0,zBu,zBu,zBu,zBu];generalize dg es x.ed=W at *;refine PCall.body Tryz.func98 rfl rfl Tryz.ntmps98 rfl rfl ?_
   repeat' (first|refine qP ?_ (h:=fun hg=>by first|exact iX je ss ((i:Nat):Int) hix (hb:=oM)|exact aa|exact pc h1|fail)|apply sqW|refine rgK fun U V=>?_|(refine aN V ?_;clear V U)|refine aB ?_|refine aS ?_|refine aA ?_|refine cX ?_ ?_<;>intro hc<;>try simp only[dE] at hc|refine skW ?_|refine rtW ?_|refine kD fun U V=>?_|(refine aqN (V _ ?_);clear V U)|refine aqQ rfl rfl (fun hg=>by first|exact PRun.eq (v:=.b (x.id != ((i:Nat):Int)+1)) (PRun.cZ rfl rfl nd rfl nd rfl) (congrArg AV.b hne)|exact aa|exact(Bool.noConfusion (show false=true from hg):PRun _ _ _ _ (.b false))|fail) (by exact rfl) ?_)
   all_goals (first|(exfalso;simp at hc;done)|skip)
   exact⟨.inr rfl,Ent.b rfl⟩
end Go.Proofs.YthiaimakjmhegaaGreatDoor.Top
