/- Parts of the proof. No statement is proved here. -/
import Derived.Test.YthiaimakjmhegaaGreatDoorP11
import Derived.Test.YthiaimakjmhegaaGreatDoorP13
set_option linter.unusedVariables false
set_option linter.unusedSimpArgs false
set_option maxHeartbeats 16000000
set_option maxRecDepth 20000
namespace Go.Ab
def ekC (c:Go.Pl.bI):Value:=.agg #[.int .i64 c.from_,.int .i64 c.ak,.int .i64 c.pass]
def fieldsOf (P:Program) (t:TypeId):Array Field:=match P.underlying t with|some (.struct F)=>F|_=>#[]
theorem x0 {P : Program} {kt e : TypeId} (hk : P.underlying kt = some (.struct (fieldsOf P kt))) (hF : (fieldsOf P kt).toList.map (fun f => (f.name == "_", f.type, f.offset)) = [(false, e, 0), (false, e, 1), (false, e, 2)]) (he : P.underlying e = some (.int .i64)) (hfe : gw P 7 e = some [.int .i64]) (hf : gw P 8 kt = some [.int .i64, .int .i64, .int .i64]) : KeyLaw P kt ekC where
 check w em k:=by
  have hv:∀a:Value,ga P e [a]=a:=fun a=>by simp[ga,he,ltOf,LT.isAgg]
  have p0:=jk hfe #[.int .i64 k.from_,.int .i64 k.ak,.int .i64 k.pass] 0 sMp w;have p1:=jk hfe #[.int .i64 k.from_,.int .i64 k.ak,.int .i64 k.pass] 1 sMp w;have p2:=jk hfe #[.int .i64 k.from_,.int .i64 k.ak,.int .i64 k.pass] 2 sMp w;have q0:(List.take [LT.int IntKind.i64].length (List.drop 0 (#[Value.int .i64 k.from_,Value.int .i64 k.ak,Value.int .i64 k.pass]).toList))=[.int .i64 k.from_]:=rfl;have q1:(List.take [LT.int IntKind.i64].length (List.drop 1 (#[Value.int .i64 k.from_,Value.int .i64 k.ak,Value.int .i64 k.pass]).toList))=[.int .i64 k.ak]:=rfl;have q2:(List.take [LT.int IntKind.i64].length (List.drop 2 (#[Value.int .i64 k.from_,Value.int .i64 k.ak,Value.int .i64 k.pass]).toList))=[.int .i64 k.pass]:=rfl;rw[q0,hv] at p0;rw[q1,hv] at p1;rw[q2,hv] at p2;have c:∀a,(Instr.checkKey em 9999 e (.int .i64 a)).run P w=.ok () w:=fun a=>by
   show(Instr.checkKey em (9998+1) e (.int .i64 a)).run P w=_;rw[Instr.checkKey,Sem.run_bind,run_underlying he w];rfl
  show(Instr.checkKey em (9999+1) kt (ekC k)).run P w=_;unfold ekC;rw[Instr.checkKey,Sem.run_bind,run_underlying hk w];simp only[Result.andThen_ok];generalize fieldsOf P kt=F at hF;obtain⟨L⟩:=F
  match L,hF with
  |[],hF=>simp at hF
  |[_],hF=>simp at hF
  |[_,_],hF=>simp at hF
  |_::_::_::_::_,hF=>simp at hF
  | [f0, f1, f2], hF =>
    simp only[zBt,List.map_nil,List.cons.injEq,Prod.mk.injEq,beq_eq_false_iff_ne,ne_eq,and_true] at hF;obtain⟨⟨n0,t0,o0⟩,⟨n1,t1,o1⟩,n2,t2,o2⟩:=hF;simp[Sem.run_bind,n0,n1,n2,t0,t1,t2,o0,o1,o2,p0,p1,p2,c,Result.andThen]
 find w k es ks h:=by
  have heq:∀a b (w:World),(Op.equal kt (ekC a) (ekC b)).run P w=.ok (decide (b=a)) w:=fun a b w=>by
   have e:=uq w 8 kt _ hf 10000 dCd [.int .i64 a.from_,.int .i64 a.ak,.int .i64 a.pass] [.int .i64 b.from_,.int .i64 b.ak,.int .i64 b.pass] (decide (b=a)) (by
    obtain⟨a1,a2,a3⟩:=a;obtain⟨b1,b2,b3⟩:=b;have e1:eZ [LT.int IntKind.i64,LT.int IntKind.i64,LT.int IntKind.i64] [.int .i64 a1,.int .i64 a2,.int .i64 a3] [.int .i64 b1,.int .i64 b2,.int .i64 b3]=some (a1==b1&&(a2==b2&&(a3==b3&&true))):=by simp[eZ,eqV]
    rw[e1];congr 1;rw[zAi];simp;exact⟨fun ⟨h1,h2,h3⟩=>⟨h1.symm,h2.symm,h3.symm⟩,fun ⟨h1,h2,h3⟩=>⟨h1.symm,h2.symm,h3.symm⟩⟩)
   have hv:∀z:List Value,ga P kt z=.agg z.toArray:=fun z=>by simp[ga,hk,ltOf,LT.isAgg]
   rw[hv,hv] at e;exact e
  unfold Instr.findKey;rw[Sem.run_bind,run_underlying hk w];simp only[Result.andThen_ok]
  match es,ks,h with
  |[],[],_=>rfl
  |[],_::_,h=>simp at h
  |_::_,[],h=>simp at h
  | e0 :: es, x :: ks, h =>
    have hn:Instr.findNow (.struct (fieldsOf P kt)) (ekC k) (e0::es) 0=none:=rfl;rw[hn];have:=mu heq w k (e0::es) (x::ks) 0 h;simpa using this
 stays w k:=by
  unfold Instr.keyThatStays;have:Instr.sameBits 10000 (ekC k) (ekC k)=true:=by
   show Instr.sameBits (9999+1) (ekC k) (ekC k)=true;simp[Instr.sameBits,ekC]
  rw[if_pos this];rfl
end Go.Ab
namespace Go.Proofs.YthiaimakjmhegaaGreatDoor.Pl
open Go.Ab Go.Pl
attribute [local irreducible] AWP AOps EStep AQ PStep PRun PCall TCall VCall
def ba (r:bV):List AV:=[.int r.from_,.int r.ak,.int r.times]
def ck (x:ik):List AV:=[.int x.from_,.int x.ak,.int x.pass]
def aM (c:bI):List AV:=[.int c.from_,.int c.ak,.int c.pass]
def aP (f:aG):List AV:=[.int f.bars,.sl 3 (f.ar.map ba) .no,.sl 3 (f.ends.map ck) .no,.int f.jump.at_,.int f.jump.to,.int f.jump.ch,.sl 3 (f.cuts.map aM) .no]
structure FIn (f:aG):Prop where
 ar:f.ar.length≤1000000000
 ends:f.ends.length≤1000000000
 cuts:f.cuts.length≤1000000000
theorem bD {α:Type} [Inhabited α] {l:List α} {k:Nat} (h:k<l.length):l.getD k default∈l:=by
 rw[show l.getD k default=l[k] by simp[List.getD,h]];exact lGm h
theorem fO {α:Type} [Inhabited α] {l:List α} {k:Nat} (h:k<l.length):l.getD k default=l[k]:=by simp[List.getD,h]
theorem gA {α:Type} [Inhabited α] (p:α→Bool) (l:List α):decide (az p l≥0)=l.any p:=by
 have:=Ed.gq p l;rw[zAi];cases h:l.any p with
 | true =>
   have h2:(l.all fun x=>!p x)=false:=by
    rw[Bool.eq_false_iff];intro h3;obtain⟨x,hx,hp⟩:=zCw.1 h;have:=zA4.1 h3 x hx;rw[hp] at this;cases this
   rw[h2] at this;simpa using this
 | false =>
   have h2:(l.all fun x=>!p x)=true:=by
    rw[zA4];intro x hx;rw[List.any_eq_false] at h;simpa using h x hx
   rw[h2] at this;simpa using this
theorem fq {α:Type} [Inhabited α] {l:List α} {k:Nat} (h:k<l.length):l.drop k=l.getD k default::l.drop (k+1):=by
 rw[fO h,zBj h]
theorem vz (l:List bV) (fv:AV) (p:bV→Bool) (hp:∀x∈l,bF Tryz.prog fv [.agg (ba x)] (.b (p x))) (hl:l.length≤1000000000) :
 PCall Tryz.prog 282 [.sl 3 (l.map ba) .no,fv] (.int (az p l)):=by
 refine PCall.di [1] Tryz.func282 rfl rfl Tryz.ntmps282 rfl rfl ?_
 repeat' (first|refine qT ?_|apply sqW|refine rgK fun U V=>?_|(refine aN V ?_;clear V U)|refine blK ?_)
 refine lpW (ι:=Nat) (fun k=>[(0,.sl 3 (l.map ba) .no),(1,.ext fv),(7,.int l.length),(8,.int k)]) (fun _=>[]) (fun k=>k≤l.length∧∀j,j<k→p (l.getD j default)=false) (fun k=>l.length - k) 0 ⟨nZl _,fun j h=>absurd h oM⟩ ⟨rfl,rfl,rfl,rfl,tI⟩ rfl ?_;rintro k ⟨hk,au⟩;by_cases hlt:k<l.length
 · repeat' (first|refine qP ?_ (h:=fun hg=>by first|exact aa|exact PRun.fx (hp _ (bD hlt)) rfl rfl nd rfl nds|exact af)|apply sqW|refine rgK fun U V=>?_|(refine aN V ?_;clear V U)|refine cX ?_ ?_<;>intro hc<;>try simp only[dE] at hc|refine blK ?_|refine exW ?_|refine skW ?_|refine rtW ?_)
   · refine⟨.inr rfl,?_⟩;rw[show az p l=k from bP hlt hc au];exact fun _ _ h=>h
   · exact⟨k+1,⟨oM,fun j hj=>aH au hc hj⟩,oM,⟨rfl,rfl,rfl,rfl,tI⟩,rfl⟩
   · exfalso;omega
 · repeat' (first|refine qT ?_|apply sqW|refine rgK fun U V=>?_|(refine aN V ?_;clear V U)|refine cX ?_ ?_<;>intro hc<;>try simp only[dE] at hc|refine blK ?_|refine exW ?_|refine skW ?_|refine rtW ?_)
   · exfalso;omega
   · refine⟨.inr rfl,?_⟩;rw[show az p l = -1 from bX fun j hj=>au j oM];exact fun _ _ h=>h
theorem tf (l:List bV) (fv:AV) (p:bV→Bool) (hp:∀x∈l,bF Tryz.prog fv [.agg (ba x)] (.b (p x))) (hl:l.length≤1000000000) :
 PCall Tryz.prog 244 [.sl 3 (l.map ba) .no,fv] (.b (l.any p)):=by
 rw[←gA];refine PCall.di [1] Tryz.func244 rfl rfl Tryz.ntmps244 rfl rfl ?_
 repeat' (first|refine qP ?_ (h:=fun hg=>by first|exact aa|exact pc (vz l fv p hp hl)|exact af)|apply sqW|refine rgK fun U V=>?_|(refine aN V ?_;clear V U)|refine rtW ?_)
 exact⟨.inr rfl,fun _ _ h=>h⟩
theorem D7 (l:List ik) (fv:AV) (p:ik→Bool) (hp:∀x∈l,bF Tryz.prog fv [.agg (ck x)] (.b (p x))) (hl:l.length≤1000000000) :
 PCall Tryz.prog 333 [.sl 3 (l.map ck) .no,fv] (.int (az p l)):=by
 refine PCall.di [1] Tryz.func333 rfl rfl Tryz.ntmps333 rfl rfl ?_
 repeat' (first|refine qT ?_|apply sqW|refine rgK fun U V=>?_|(refine aN V ?_;clear V U)|refine blK ?_)
 refine lpW (ι:=Nat) (fun k=>[(0,.sl 3 (l.map ck) .no),(1,.ext fv),(7,.int l.length),(8,.int k)]) (fun _=>[]) (fun k=>k≤l.length∧∀j,j<k→p (l.getD j default)=false) (fun k=>l.length - k) 0 ⟨nZl _,fun j h=>absurd h oM⟩ ⟨rfl,rfl,rfl,rfl,tI⟩ rfl ?_;rintro k ⟨hk,au⟩;by_cases hlt:k<l.length
 · repeat' (first|refine qP ?_ (h:=fun hg=>by first|exact aa|exact PRun.fx (hp _ (bD hlt)) rfl rfl nd rfl nds|exact af)|apply sqW|refine rgK fun U V=>?_|(refine aN V ?_;clear V U)|refine cX ?_ ?_<;>intro hc<;>try simp only[dE] at hc|refine blK ?_|refine exW ?_|refine skW ?_|refine rtW ?_)
   · refine⟨.inr rfl,?_⟩;rw[show az p l=k from bP hlt hc au];exact fun _ _ h=>h
   · exact⟨k+1,⟨oM,fun j hj=>aH au hc hj⟩,oM,⟨rfl,rfl,rfl,rfl,tI⟩,rfl⟩
   · exfalso;omega
 · repeat' (first|refine qT ?_|apply sqW|refine rgK fun U V=>?_|(refine aN V ?_;clear V U)|refine cX ?_ ?_<;>intro hc<;>try simp only[dE] at hc|refine blK ?_|refine exW ?_|refine skW ?_|refine rtW ?_)
   · exfalso;omega
   · refine⟨.inr rfl,?_⟩;rw[show az p l = -1 from bX fun j hj=>au j oM];exact fun _ _ h=>h
theorem BL (l:List ik) (fv:AV) (p:ik→Bool) (hp:∀x∈l,bF Tryz.prog fv [.agg (ck x)] (.b (p x))) (hl:l.length≤1000000000) :
 PCall Tryz.prog 325 [.sl 3 (l.map ck) .no,fv] (.b (l.any p)):=by
 rw[←gA];refine PCall.di [1] Tryz.func325 rfl rfl Tryz.ntmps325 rfl rfl ?_
 repeat' (first|refine qP ?_ (h:=fun hg=>by first|exact aa|exact pc (D7 l fv p hp hl)|exact af)|apply sqW|refine rgK fun U V=>?_|(refine aN V ?_;clear V U)|refine rtW ?_)
 exact⟨.inr rfl,fun _ _ h=>h⟩
theorem D8 (l:List bI) (fv:AV) (p:bI→Bool) (hp:∀x∈l,bF Tryz.prog fv [.agg (aM x)] (.b (p x))) (hl:l.length≤1000000000) :
 PCall Tryz.prog 287 [.sl 3 (l.map aM) .no,fv] (.int (az p l)):=by
 refine PCall.di [1] Tryz.func287 rfl rfl Tryz.ntmps287 rfl rfl ?_
 repeat' (first|refine qT ?_|apply sqW|refine rgK fun U V=>?_|(refine aN V ?_;clear V U)|refine blK ?_)
 refine lpW (ι:=Nat) (fun k=>[(0,.sl 3 (l.map aM) .no),(1,.ext fv),(7,.int l.length),(8,.int k)]) (fun _=>[]) (fun k=>k≤l.length∧∀j,j<k→p (l.getD j default)=false) (fun k=>l.length - k) 0 ⟨nZl _,fun j h=>absurd h oM⟩ ⟨rfl,rfl,rfl,rfl,tI⟩ rfl ?_;rintro k ⟨hk,au⟩;by_cases hlt:k<l.length
 · repeat' (first|refine qP ?_ (h:=fun hg=>by first|exact aa|exact PRun.fx (hp _ (bD hlt)) rfl rfl nd rfl nds|exact af)|apply sqW|refine rgK fun U V=>?_|(refine aN V ?_;clear V U)|refine cX ?_ ?_<;>intro hc<;>try simp only[dE] at hc|refine blK ?_|refine exW ?_|refine skW ?_|refine rtW ?_)
   · refine⟨.inr rfl,?_⟩;rw[show az p l=k from bP hlt hc au];exact fun _ _ h=>h
   · exact⟨k+1,⟨oM,fun j hj=>aH au hc hj⟩,oM,⟨rfl,rfl,rfl,rfl,tI⟩,rfl⟩
   · exfalso;omega
 · repeat' (first|refine qT ?_|apply sqW|refine rgK fun U V=>?_|(refine aN V ?_;clear V U)|refine cX ?_ ?_<;>intro hc<;>try simp only[dE] at hc|refine blK ?_|refine exW ?_|refine skW ?_|refine rtW ?_)
   · exfalso;omega
   · refine⟨.inr rfl,?_⟩;rw[show az p l = -1 from bX fun j hj=>au j oM];exact fun _ _ h=>h
theorem BM (l:List bI) (fv:AV) (p:bI→Bool) (hp:∀x∈l,bF Tryz.prog fv [.agg (aM x)] (.b (p x))) (hl:l.length≤1000000000) :
 PCall Tryz.prog 251 [.sl 3 (l.map aM) .no,fv] (.b (l.any p)):=by
 rw[←gA];refine PCall.di [1] Tryz.func251 rfl rfl Tryz.ntmps251 rfl rfl ?_
 repeat' (first|refine qP ?_ (h:=fun hg=>by first|exact aa|exact pc (D8 l fv p hp hl)|exact af)|apply sqW|refine rgK fun U V=>?_|(refine aN V ?_;clear V U)|refine rtW ?_)
 exact⟨.inr rfl,fun _ _ h=>h⟩
theorem x3 (r:bV) (bar:Int):PCall Tryz.prog 283 [.agg (ba r),.iptr [.int bar]] (.b (decide (r.from_<bar)&&decide (bar<r.ak))):=by
 refine PCall.body Tryz.func283 rfl rfl Tryz.ntmps283 rfl rfl ?_
 repeat' (first|refine qS ?_|apply sqW|refine rgK fun U V=>?_|(refine aN V ?_;clear V U)|refine aB ?_|refine rtW ?_)
 exact⟨.inr rfl,Ent.b rfl⟩
theorem wa (f:aG) (hf:FIn f) (bar:Int):PCall Tryz.prog 246 [.agg (aP f),.int bar] (.b (iG f.ar bar)):=by
 have h1:=tf f.ar (.fn (.func 283) [] [.iptr [.int bar]]) (fun r=>decide (r.from_<bar)&&decide (bar<r.ak)) (fun x _=>⟨_,[],_,rfl,x3 x bar⟩) hf.ar;refine PCall.body Tryz.func246 rfl rfl Tryz.ntmps246 rfl rfl ?_
 repeat' (first|refine qP ?_ (h:=fun hg=>by first|exact aa|exact pbW (h1) rfl rfl nd rfl rfl nds|exact af)|apply sqW|refine rgK fun U V=>?_|(refine aN V ?_;clear V U)|refine aB ?_|refine rtW ?_)
 exact⟨.inr rfl,Ent.b rfl⟩
def gB (l:List bV):Nat→Int
 |0=>0
 |k+1=>(l.getD k default).ak
theorem tg (f:aG) (hf:FIn f):PCall Tryz.prog 180 [.agg (aP f)] (.b (cT f.bars 0 f.ar&&decide (f.ar.length≤100))):=by
 have hl:=hf.ar;refine PCall.body Tryz.func180 rfl rfl Tryz.ntmps180 rfl rfl ?_
 repeat' (first|refine qT ?_|apply sqW|refine rgK fun U V=>?_|(refine aN V ?_;clear V U)|refine aB ?_|refine blK ?_)
 refine lpD (ι:=Nat) (fun k=>[(1,.ptr 0 0),(3,.int (gB f.ar k)),(8,.sl 3 (f.ar.map ba) .no),(9,.int f.ar.length),(10,.int k)]) (fun _=>[.var (aP f)])
  (fun k=>k≤f.ar.length∧cT f.bars 0 f.ar=cT f.bars (gB f.ar k) (f.ar.drop k)) (fun k=>f.ar.length - k) 1 (fun _=>rfl) 0 ⟨nZl _,rfl⟩ ⟨rfl,rfl,rfl,rfl,rfl,tI⟩ rfl (fun _ _=>rfl) (fun _ _=>rfl) ?_
 rintro k ⟨hk,hinv⟩;by_cases hlt:k<f.ar.length
 · have e1:cT f.bars (gB f.ar k) (f.ar.drop k)=(!(decide ((f.ar.getD k default).from_<gB f.ar k)||decide ((f.ar.getD k default).ak≤(f.ar.getD k default).from_)||decide (f.bars<(f.ar.getD k default).ak)||decide ((f.ar.getD k default).times<1)||decide (9<(f.ar.getD k default).times))&&cT f.bars (gB f.ar (k+1)) (f.ar.drop (k+1))):=by
    rw[fq hlt];rfl
   repeat' (first|refine qT ?_|apply sqW|refine rgK fun U V=>?_|(refine aN V ?_;clear V U)|refine aS ?_|refine aA ?_|refine cX ?_ ?_<;>intro hc<;>try simp only[dE] at hc|refine blK ?_|refine exW ?_|refine skW ?_|refine rtW ?_)
   all_goals first|(exfalso;omega)|skip
   · refine⟨.inr rfl,Ent.b ?_⟩;rw[zAe] at hc;have hc2:(decide ((f.ar.getD k default).from_<gB f.ar k)||decide ((f.ar.getD k default).ak≤(f.ar.getD k default).from_)||decide (f.bars<(f.ar.getD k default).ak)||decide ((f.ar.getD k default).times<1)||decide (9<(f.ar.getD k default).times))=true:=hc;rw[hinv,e1,hc2];rfl
   · rw[zAe] at hc;have hc2:(decide ((f.ar.getD k default).from_<gB f.ar k)||decide ((f.ar.getD k default).ak≤(f.ar.getD k default).from_)||decide (f.bars<(f.ar.getD k default).ak)||decide ((f.ar.getD k default).times<1)||decide (9<(f.ar.getD k default).times))=false:=hc;rw[hc2,zDh,zAy] at e1;exact⟨k+1,⟨oM,hinv.trans e1⟩,oM,⟨rfl,rfl,rfl,rfl,rfl,tI⟩,rfl⟩
 · repeat' (first|refine qT ?_|apply sqW|refine rgK fun U V=>?_|(refine aN V ?_;clear V U)|refine aS ?_|refine aA ?_|refine cX ?_ ?_<;>intro hc<;>try simp only[dE] at hc|refine blK ?_|refine exW ?_|refine skW ?_|refine rtW ?_)
   all_goals first|(exfalso;omega)|skip
   refine⟨.inr rfl,Ent.b ?_⟩;rw[hinv,zBh oM];show _=(true&&_);rw[zAy,zAi];simp;omega
theorem BN (r:bV) (x:ik):PCall Tryz.prog 245 [.agg (ba r),.iptr (ck x)] (.b (decide (r.from_≤x.from_)&&decide (x.ak≤r.ak))):=by
 refine PCall.body Tryz.func245 rfl rfl Tryz.ntmps245 rfl rfl ?_
 repeat' (first|refine qS ?_|apply sqW|refine rgK fun U V=>?_|(refine aN V ?_;clear V U)|refine aB ?_|refine rtW ?_)
 exact⟨.inr rfl,Ent.b rfl⟩
def gC (l:List ik):Nat→Int
 |0=>0
 |k+1=>(l.getD k default).ak
theorem th (f:aG) (hf:FIn f):PCall Tryz.prog 181 [.agg (aP f)] (.b (dy f.ar 0 f.ends&&decide (f.ends.length≤100))):=by
 have hl:=hf.ends;refine PCall.body Tryz.func181 rfl rfl Tryz.ntmps181 rfl rfl ?_
 repeat' (first|refine qT ?_|apply sqW|refine rgK fun U V=>?_|(refine aN V ?_;clear V U)|refine aB ?_|refine blK ?_)
 refine lpD (ι:=Nat) (fun k=>[(1,.ptr 0 0),(3,.int (gC f.ends k)),(9,.sl 3 (f.ends.map ck) .no),(10,.int f.ends.length),(11,.int k)]) (fun _=>[.var (aP f)])
  (fun k=>k≤f.ends.length∧dy f.ar 0 f.ends=dy f.ar (gC f.ends k) (f.ends.drop k)) (fun k=>f.ends.length - k) 1 (fun _=>rfl) 0 ⟨nZl _,rfl⟩ ⟨rfl,rfl,rfl,rfl,rfl,tI⟩ rfl (fun _ _=>rfl) (fun _ _=>rfl) ?_
 rintro k ⟨hk,hinv⟩;by_cases hlt:k<f.ends.length
 · have e1:dy f.ar (gC f.ends k) (f.ends.drop k)=(!(decide ((f.ends.getD k default).from_<gC f.ends k)||decide ((f.ends.getD k default).ak≤(f.ends.getD k default).from_)||!eT f.ar (f.ends.getD k default).from_ (f.ends.getD k default).ak||decide ((f.ends.getD k default).pass<1)||decide (9<(f.ends.getD k default).pass))&&dy f.ar (gC f.ends (k+1)) (f.ends.drop (k+1))):=by
    rw[fq hlt];rfl
   have h1:=tf f.ar (.fn (.func 245) [] [.iptr (ck (f.ends.getD k default))]) (fun r=>decide (r.from_≤(f.ends.getD k default).from_)&&decide ((f.ends.getD k default).ak≤r.ak)) (fun x _=>⟨_,[],_,rfl,BN x _⟩) hf.ar;change PCall _ _ _ (.b (eT f.ar (f.ends.getD k default).from_ (f.ends.getD k default).ak)) at h1
   repeat' (first|refine qP ?_ (h:=fun hg=>by first|exact aa|exact pbW (h1) rfl rfl nd rfl rfl nds|exact af)|apply sqW|refine rgK fun U V=>?_|(refine aN V ?_;clear V U)|refine aS ?_|refine aA ?_|refine cX ?_ ?_<;>intro hc<;>try simp only[dE] at hc|refine blK ?_|refine exW ?_|refine skW ?_|refine rtW ?_)
   all_goals first|(exfalso;omega)|skip
   · refine⟨.inr rfl,Ent.b ?_⟩;have hc2:(decide ((f.ends.getD k default).from_<gC f.ends k)||decide ((f.ends.getD k default).ak≤(f.ends.getD k default).from_)||!eT f.ar (f.ends.getD k default).from_ (f.ends.getD k default).ak||decide ((f.ends.getD k default).pass<1)||decide (9<(f.ends.getD k default).pass))=true:=hc;rw[hinv,e1,hc2];rfl
   · have hc2:(decide ((f.ends.getD k default).from_<gC f.ends k)||decide ((f.ends.getD k default).ak≤(f.ends.getD k default).from_)||!eT f.ar (f.ends.getD k default).from_ (f.ends.getD k default).ak||decide ((f.ends.getD k default).pass<1)||decide (9<(f.ends.getD k default).pass))=false:=hc;rw[hc2,zDh,zAy] at e1;exact⟨k+1,⟨oM,hinv.trans e1⟩,oM,⟨rfl,rfl,rfl,rfl,rfl,tI⟩,rfl⟩
 · repeat' (first|refine qT ?_|apply sqW|refine rgK fun U V=>?_|(refine aN V ?_;clear V U)|refine aS ?_|refine aA ?_|refine cX ?_ ?_<;>intro hc<;>try simp only[dE] at hc|refine blK ?_|refine exW ?_|refine skW ?_|refine rtW ?_)
   all_goals first|(exfalso;omega)|skip
   refine⟨.inr rfl,Ent.b ?_⟩;rw[hinv,zBh oM];show _=(true&&_);rw[zAy,zAi];simp;omega
theorem x4 (x:ik) (bar pass:Int):PCall Tryz.prog 326 [.agg (ck x),.iptr [.int bar],.iptr [.int pass]] (.b (decide (x.from_≤bar)&&decide (bar<x.ak)&&!(x.pass==pass))):=by
 refine PCall.body Tryz.func326 rfl rfl Tryz.ntmps326 rfl rfl ?_
 repeat' (first|refine qS ?_|apply sqW|refine rgK fun U V=>?_|(refine aN V ?_;clear V U)|refine aB ?_|refine rtW ?_)
 exact⟨.inr rfl,Ent.b rfl⟩
theorem tj (l:List ik) (bar pass:Int):l.any (fun x=>decide (x.from_≤bar)&&decide (bar<x.ak)&&!(x.pass==pass))=!gb l bar pass:=by
 unfold gb;induction l with
 |nil=>rfl
 | cons x l ih =>
   rw[List.any_cons,zB4,Bool.not_and,Bool.not_not,ih];congr 1;congr 1;rw[zAi];simp
theorem wb (f:aG) (hf:FIn f) (bar pass:Int):PCall Tryz.prog 303 [.agg (aP f),.int bar,.int pass] (.b (!gb f.ends bar pass)):=by
 have h1:=BL f.ends (.fn (.func 326) [] [.iptr [.int bar],.iptr [.int pass]]) (fun x=>decide (x.from_≤bar)&&decide (bar<x.ak)&&!(x.pass==pass)) (fun x _=>⟨_,[],_,rfl,x4 x bar pass⟩) hf.ends;rw[tj] at h1;refine PCall.body Tryz.func303 rfl rfl Tryz.ntmps303 rfl rfl ?_
 repeat' (first|refine qP ?_ (h:=fun hg=>by first|exact aa|exact pbW (h1) rfl rfl nd rfl rfl nds|exact af)|apply sqW|refine rgK fun U V=>?_|(refine aN V ?_;clear V U)|refine aB ?_|refine rtW ?_)
 exact⟨.inr rfl,Ent.b rfl⟩
theorem flJ:kQ Tryz.prog 71=some [.int .i64,.int .i64,.int .i64]:=by kernel_rfl
theorem zI (f:aG) (hf:FIn f):PCall Tryz.prog 182 [.agg (aP f)] (.b (dC f)):=by
 have w:=wa f hf;refine PCall.body Tryz.func182 rfl rfl Tryz.ntmps182 rfl rfl ?_;have hj0:(f.jump.at_==0&&(f.jump.to==0&&(f.jump.ch==0&&true)))=decide (f.jump=⟨0,0,0⟩):=by
  rw[zAi];obtain⟨a,b,c⟩:=f.jump;simp
 repeat' (first|refine qP ?_ (h:=fun hg=>by first|exact aa|exact pc (w _)|exact pbD ab rfl rfl nds|exact PRun.eqS flJ rfl rfl nd rfl nd rfl|exact af)|apply sqW|refine rgK fun U V=>?_|(refine aN V ?_;clear V U)|refine aB ?_|refine aS ?_|refine aA ?_|refine cX ?_ ?_<;>intro hc<;>try simp only[dE] at hc|refine skW ?_|refine rtW ?_)
 · refine⟨.inr rfl,Ent.b ?_⟩;unfold dC;rw[←hj0,hc];rfl
 · rename_i hc0;refine⟨.inr rfl,Ent.b ?_⟩;have hc2:(decide (f.jump.at_<1)||decide (f.bars<f.jump.at_)||decide (f.jump.to<0)||decide (f.jump.at_≤f.jump.to)||decide (f.jump.ch≤f.jump.to)||decide (f.bars<f.jump.ch))=true:=hc;unfold dC;rw[←hj0,hc0,hc2];rfl
 · rename_i hc0;refine⟨.inr rfl,Ent.b ?_⟩;have hc2:(decide (f.jump.at_<1)||decide (f.bars<f.jump.at_)||decide (f.jump.to<0)||decide (f.jump.at_≤f.jump.to)||decide (f.jump.ch≤f.jump.to)||decide (f.bars<f.jump.ch))=false:=hc;unfold dC;rw[←hj0,hc0,hc2];rfl
theorem tl (f:aG) (c:bI):PCall Tryz.prog 231 [.agg (aP f),.agg (aM c)] (.b (fU f.bars c)):=by
 refine PCall.body Tryz.func231 rfl rfl Tryz.ntmps231 rfl rfl ?_
 repeat' (first|refine qS ?_|apply sqW|refine rgK fun U V=>?_|(refine aN V ?_;clear V U)|refine aB ?_|refine rtW ?_)
 exact⟨.inr rfl,Ent.b rfl⟩
theorem D9:KeyLaw Tryz.prog 202 ekC:=x0 (e:=3) (by kernel_rfl) (by kernel_rfl) (by kernel_rfl) (by kernel_rfl) (by kernel_rfl)
def mz (l:List bI):List (bI×Bool):=l.map fun c=>(c,true)
theorem Ge (l:List bI) (c:bI):(lk (mz l) c).getD false=decide (c∈l):=by
 induction l with
 |nil=>rfl
 | cons x l ih =>
   show(lk ((x,true)::mz l) c).getD false=_;simp only[lk];by_cases h:x=c
   · subst h;simp
   · rw[if_neg h,ih,zAi];simp[Ne.symm h,fun e:c=x=>h e.symm]
theorem x5 (f:aG) (hf:FIn f):PCall Tryz.prog 183 [.agg (aP f)] (.b (eh f.bars f.cuts&&decide (f.cuts.length≤100))):=by
 have hl:=hf.cuts;refine PCall.body Tryz.func183 rfl rfl Tryz.ntmps183 rfl rfl ?_
 repeat' (first|refine qT ?_|apply sqW|refine rgK fun U V=>?_|(refine aN V ?_;clear V U)|refine aB ?_|refine aoE (EStep.dn rfl rfl rfl rfl ?_)|refine blK ?_)
 refine lpD (ι:=Nat) (fun k=>[(1,.ptr 0 0),(3,.map 1),(9,.sl 3 (f.cuts.map aM) .no),(10,.int f.cuts.length),(11,.int k)]) (fun k=>[.var (aP f),.map (aT ekC AV.b (mz (f.cuts.take k)))])
  (fun k=>k≤f.cuts.length∧(∀j,j<k→fU f.bars (f.cuts.getD j default)=true)∧(f.cuts.take k).Nodup) (fun k=>f.cuts.length - k) 2 (fun _=>rfl) 0 ⟨nZl _,fun j h=>absurd h oM,by simp⟩ ⟨rfl,rfl,rfl,rfl,rfl,tI⟩ rfl (fun _ _=>rfl) (fun k _=>by simp[aD,aT,aO,aP]) ?_
 rintro k ⟨hk,au,hnd⟩;by_cases hlt:k<f.cuts.length
 · have hs:=Ge (f.cuts.take k) (f.cuts.getD k default);have w:=tl f (f.cuts.getD k default);have hm:=bD hlt
   repeat' (first|refine qP ?_ (h:=fun hg=>by first|exact aa|exact pc w|exact PRun.lookup (ek:=ekC) (ev:=AV.b) (zv:=false) D9 (lkG rfl) (lkG rfl) rfl rfl (Rd.w rfl nd) (Or.inr ⟨_,rfl,rfl⟩) (Rd.w rfl nd) rfl|exact af)|apply sqW|refine rgK fun U V=>?_|(refine aN V ?_;clear V U)|refine aS ?_|refine aA ?_|refine aoE (EStep.fu (ek:=ekC) (ev:=AV.b) (v:=true) D9 (lkG rfl) rfl rfl rfl (Rd.w rfl tI) rfl (Rd.w rfl tI) rfl (Rd.w rfl tI) ?_)|refine cX ?_ ?_<;>intro hc<;>try simp only[dE] at hc|refine blK ?_|refine exW ?_|refine skW ?_|refine rtW ?_)
   all_goals first|(exfalso;omega)|skip
   · refine⟨.inr rfl,Ent.b (Eq.symm ?_)⟩;rw[zAe,hs] at hc;rw[zDp];left;cases h1:eh f.bars f.cuts with
     |false=>rfl
     | true =>
       exfalso;unfold eh at h1;simp only[zA0,zA4,dEt] at h1;rw[h1.1 _ hm] at hc;have h2:f.cuts.getD k default∈f.cuts.take k:=by simpa using hc
       have h3:=h1.2;rw[←zCn k f.cuts,fq hlt,zC7] at h3;exact h3.2.2 _ h2 _ (zB8 ..) rfl
   · rw[zAe,hs] at hc;simp only[zAg,zBc,dEf] at hc;have e1:f.cuts.take (k+1)=f.cuts.take k++[f.cuts.getD k default]:=by
      rw[zC8,zA1 hlt,fO hlt];rfl
     have e2:ins (mz (f.cuts.take k)) (f.cuts.getD k default) true=mz (f.cuts.take (k+1)):=by
      rw[e1,uv]
      · unfold mz;rw[zBw];rfl
      · unfold mz;rw[zD9];intro h;obtain⟨x,hx,e⟩:=zAq.1 h;have e:x=f.cuts.getD k default:=e;exact hc.2 (e▸hx)
     refine⟨k+1,⟨oM,fun j hj=>aH au hc.1 hj,?_⟩,oM,⟨rfl,rfl,rfl,rfl,rfl,tI⟩,?_⟩
     · rw[e1,zC7];exact⟨hnd,by simp,fun a ha b hb e=>by rw[zA9.1 hb] at e;exact hc.2 (e▸ha)⟩
     · rw[zAe];show[bc.var (aP f),bc.map (aT ekC AV.b (ins (mz (f.cuts.take k)) (f.cuts.getD k default) true))]=_;rw[e2]
 · repeat' (first|refine qT ?_|apply sqW|refine rgK fun U V=>?_|(refine aN V ?_;clear V U)|refine aS ?_|refine aA ?_|refine cX ?_ ?_<;>intro hc<;>try simp only[dE] at hc|refine blK ?_|refine exW ?_|refine skW ?_|refine rtW ?_)
   all_goals first|(exfalso;omega)|skip
   refine⟨.inr rfl,Ent.b (Eq.symm ?_)⟩;have e:f.cuts.take k=f.cuts:=zAh oM;rw[e] at hnd;have h1:eh f.bars f.cuts=true:=by
    unfold eh;simp only[zA0,zA4,dEt];refine⟨fun x hx=>?_,hnd⟩;obtain⟨j,hj,e⟩:=zE0 hx;have:=au j oM;rw[fO hj,e] at this;exact this
   rw[h1,zAy,zAi];simp;omega
theorem x6 {α:Type} [Inhabited α] {l:List α} {p:α→Bool} {k:Nat} (h:k<l.length) (hp:p (l.getD k default)=true):l.any p=true:=zCw.2 ⟨_,bD h,hp⟩
theorem x7 {α:Type} [Inhabited α] {l:List α} {p:α→Bool} (h:∀j,j<l.length→p (l.getD j default)=false):l.any p=false:=by
 rw[List.any_eq_false];intro x hx;obtain⟨j,hj,e⟩:=zE0 hx;have:=h j hj;rw[fO hj,e] at this;simp[this]
theorem x8 (l:List bV) (bar:Int) (hl:l.length≤1000000000):PCall Tryz.prog 241 [.sl 3 (l.map ba) .no,.int bar] (.b (iG l bar)):=by
 refine PCall.body Tryz.func241 rfl rfl Tryz.ntmps241 rfl rfl ?_
 repeat' (first|refine qS ?_|apply sqW|refine rgK fun U V=>?_|(refine aN V ?_;clear V U)|refine blK ?_)
 refine lpW (ι:=Nat) (fun k=>[(0,.sl 3 (l.map ba) .no),(1,.int bar),(5,.int k)]) (fun _=>[]) (fun k=>k≤l.length∧∀j,j<k→(decide ((l.getD j default).from_<bar)&&decide (bar<(l.getD j default).ak))=false) (fun k=>l.length - k) 0 ⟨nZl _,fun j h=>absurd h oM⟩ ⟨rfl,rfl,rfl,tI⟩ rfl ?_;rintro k ⟨hk,au⟩;by_cases hlt:k<l.length
 · repeat' (first|refine qT ?_|apply sqW|refine rgK fun U V=>?_|(refine aN V ?_;clear V U)|refine cX ?_ ?_<;>intro hc<;>try simp only[dE] at hc|refine blK ?_|refine exW ?_|refine skW ?_|refine rtW ?_)
   all_goals first|(exfalso;omega)|skip
   · exact⟨.inr rfl,Ent.b (x6 (p:=fun r:bV=>decide (r.from_<bar)&&decide (bar<r.ak)) hlt hc).symm⟩
   · exact⟨k+1,⟨oM,fun j hj=>aH au hc hj⟩,oM,⟨rfl,rfl,rfl,tI⟩,rfl⟩
 · repeat' (first|refine qT ?_|apply sqW|refine rgK fun U V=>?_|(refine aN V ?_;clear V U)|refine cX ?_ ?_<;>intro hc<;>try simp only[dE] at hc|refine blK ?_|refine exW ?_|refine skW ?_|refine rtW ?_)
   all_goals first|(exfalso;omega)|skip
   exact⟨.inr rfl,Ent.b (x7 (p:=fun r:bV=>decide (r.from_<bar)&&decide (bar<r.ak)) fun j hj=>au j oM).symm⟩
theorem x9 (l:List bV) (a b:Int) (hl:l.length≤1000000000):PCall Tryz.prog 240 [.sl 3 (l.map ba) .no,.int a,.int b] (.b (eT l a b)):=by
 refine PCall.body Tryz.func240 rfl rfl Tryz.ntmps240 rfl rfl ?_
 repeat' (first|refine qS ?_|apply sqW|refine rgK fun U V=>?_|(refine aN V ?_;clear V U)|refine blK ?_)
 refine lpW (ι:=Nat) (fun k=>[(0,.sl 3 (l.map ba) .no),(1,.int a),(2,.int b),(7,.int k)]) (fun _=>[]) (fun k=>k≤l.length∧∀j,j<k→(decide ((l.getD j default).from_≤a)&&decide (b≤(l.getD j default).ak))=false) (fun k=>l.length - k) 0 ⟨nZl _,fun j h=>absurd h oM⟩ ⟨rfl,rfl,rfl,rfl,tI⟩ rfl ?_;rintro k ⟨hk,au⟩;by_cases hlt:k<l.length
 · repeat' (first|refine qT ?_|apply sqW|refine rgK fun U V=>?_|(refine aN V ?_;clear V U)|refine cX ?_ ?_<;>intro hc<;>try simp only[dE] at hc|refine blK ?_|refine exW ?_|refine skW ?_|refine rtW ?_)
   all_goals first|(exfalso;omega)|skip
   · exact⟨.inr rfl,Ent.b (x6 (p:=fun r:bV=>decide (r.from_≤a)&&decide (b≤r.ak)) hlt hc).symm⟩
   · exact⟨k+1,⟨oM,fun j hj=>aH au hc hj⟩,oM,⟨rfl,rfl,rfl,rfl,tI⟩,rfl⟩
 · repeat' (first|refine qT ?_|apply sqW|refine rgK fun U V=>?_|(refine aN V ?_;clear V U)|refine cX ?_ ?_<;>intro hc<;>try simp only[dE] at hc|refine blK ?_|refine exW ?_|refine skW ?_|refine rtW ?_)
   all_goals first|(exfalso;omega)|skip
   exact⟨.inr rfl,Ent.b (x7 (p:=fun r:bV=>decide (r.from_≤a)&&decide (b≤r.ak)) fun j hj=>au j oM).symm⟩
theorem p7 (f:aG) (bar:Int) (hf:FIn f):PCall Tryz.prog 242 [.agg (aP f),.int bar] (.int (az (fun r:bV=>r.from_==bar) f.ar)):=by
 have hl:=hf.ar;refine PCall.body Tryz.func242 rfl rfl Tryz.ntmps242 rfl rfl ?_
 repeat' (first|refine qS ?_|apply sqW|refine rgK fun U V=>?_|(refine aN V ?_;clear V U)|refine aB ?_|refine blK ?_)
 refine lpW (ι:=Nat) (fun k=>[(1,.int bar),(2,.ptr 0 0),(5,.int k)]) (fun _=>[.var (aP f)]) (fun k=>k≤f.ar.length∧∀j,j<k→((f.ar.getD j default).from_==bar)=false) (fun k=>f.ar.length - k) 0 ⟨nZl _,fun j h=>absurd h oM⟩ ⟨rfl,rfl,rfl,tI⟩ rfl ?_;rintro k ⟨hk,au⟩;by_cases hlt:k<f.ar.length
 · repeat' (first|refine qT ?_|apply sqW|refine rgK fun U V=>?_|(refine aN V ?_;clear V U)|refine cX ?_ ?_<;>intro hc<;>try simp only[dE] at hc|refine blK ?_|refine exW ?_|refine skW ?_|refine rtW ?_)
   all_goals first|(exfalso;omega)|skip
   · exact⟨.inr rfl,Ent.int (bP (p:=fun r:bV=>r.from_==bar) hlt hc au).symm⟩
   · exact⟨k+1,⟨oM,fun j hj=>aH au hc hj⟩,oM,⟨rfl,rfl,rfl,tI⟩,rfl⟩
 · repeat' (first|refine qT ?_|apply sqW|refine rgK fun U V=>?_|(refine aN V ?_;clear V U)|refine cX ?_ ?_<;>intro hc<;>try simp only[dE] at hc|refine blK ?_|refine exW ?_|refine skW ?_|refine rtW ?_)
   all_goals first|(exfalso;omega)|skip
   exact⟨.inr rfl,Ent.int (bX (p:=fun r:bV=>r.from_==bar) fun j hj=>au j oM).symm⟩
theorem p8 (f:aG) (bar pass:Int) (hf:FIn f):PCall Tryz.prog 243 [.agg (aP f),.int bar,.int pass] (.b (gb f.ends bar pass)):=by
 have hl:=hf.ends;have hnp:=tj f.ends bar pass;refine PCall.body Tryz.func243 rfl rfl Tryz.ntmps243 rfl rfl ?_
 repeat' (first|refine qS ?_|apply sqW|refine rgK fun U V=>?_|(refine aN V ?_;clear V U)|refine aB ?_|refine blK ?_)
 refine lpD (ι:=Nat) (fun k=>[(1,.int bar),(2,.int pass),(3,.ptr 0 0),(7,.int k)]) (fun _=>[.var (aP f)]) (fun k=>k≤f.ends.length∧∀j,j<k→(decide ((f.ends.getD j default).from_≤bar)&&decide (bar<(f.ends.getD j default).ak)&&!((f.ends.getD j default).pass==pass))=false) (fun k=>f.ends.length - k) 1 (fun _=>rfl) 0 ⟨nZl _,fun j h=>absurd h oM⟩ ⟨rfl,rfl,rfl,rfl,tI⟩ rfl (fun _ _=>rfl) (fun _ _=>rfl) ?_;rintro k ⟨hk,au⟩;by_cases hlt:k<f.ends.length
 · repeat' (first|refine qT ?_|apply sqW|refine rgK fun U V=>?_|(refine aN V ?_;clear V U)|refine aS ?_|refine aA ?_|refine cX ?_ ?_<;>intro hc<;>try simp only[dE] at hc|refine blK ?_|refine exW ?_|refine skW ?_|refine rtW ?_)
   all_goals first|(exfalso;omega)|skip
   · refine⟨.inr rfl,Ent.b ?_⟩;rw[x6 (p:=fun x:ik=>decide (x.from_≤bar)&&decide (bar<x.ak)&&!(x.pass==pass)) hlt hc] at hnp;simpa using hnp
   · exact⟨k+1,⟨oM,fun j hj=>aH au hc hj⟩,oM,⟨rfl,rfl,rfl,rfl,tI⟩,rfl⟩
 · repeat' (first|refine qT ?_|apply sqW|refine rgK fun U V=>?_|(refine aN V ?_;clear V U)|refine aS ?_|refine aA ?_|refine cX ?_ ?_<;>intro hc<;>try simp only[dE] at hc|refine blK ?_|refine exW ?_|refine skW ?_|refine rtW ?_)
   all_goals first|(exfalso;omega)|skip
   refine⟨.inr rfl,Ent.b ?_⟩;rw[x7 (p:=fun x:ik=>decide (x.from_≤bar)&&decide (bar<x.ak)&&!(x.pass==pass)) fun j hj=>au j oM] at hnp;simpa using hnp
theorem Ea (f:aG) (c:bI):PCall Tryz.prog 177 [.agg (aP f),.agg (aM c)] (.b (fU f.bars c)):=by
 refine PCall.body Tryz.func177 rfl rfl Tryz.ntmps177 rfl rfl ?_
 repeat' (first|refine qS ?_|apply sqW|refine rgK fun U V=>?_|(refine aN V ?_;clear V U)|refine aB ?_|refine rtW ?_)
 exact⟨.inr rfl,Ent.b rfl⟩
theorem ya (c:bI) (v:cB):PCall Tryz.prog 115 [.agg (aM c),.agg [.int v.bar,.int v.pass]] (.b (leaves c v)):=by
 refine PCall.body Tryz.func115 rfl rfl Tryz.ntmps115 rfl rfl ?_
 repeat' (first|refine qS ?_|apply sqW|refine rgK fun U V=>?_|(refine aN V ?_;clear V U)|refine aB ?_|refine rtW ?_)
 exact⟨.inr rfl,Ent.b rfl⟩
theorem flC:kQ Tryz.prog 202=some [.int .i64,.int .i64,.int .i64]:=by kernel_rfl
def eqC (c x:bI):Bool:=x.from_==c.from_&&(x.ak==c.ak&&(x.pass==c.pass&&true))
theorem AM (c x:bI):eqC c x=true↔x=c:=by
 unfold eqC;obtain⟨a,b,d⟩:=c;obtain⟨a',b',d'⟩:=x;simp
def Gf (l:List bI) (c:bI):Int:=az (eqC c) l
theorem IZ (l:List bI) (c:bI):decide (Gf l c≥0)=decide (c∈l):=by
 unfold Gf;rw[gA,zAi,zCw,dEt];constructor
 · rintro⟨x,hx,h⟩;rw[←(AM c x).1 h];exact hx
 · intro h;exact⟨c,h,(AM c c).2 rfl⟩
theorem Eb (l:List bI) (c:bI) (hl:l.length≤1000000000):PCall Tryz.prog 178 [.sl 3 (l.map aM) .no,.agg (aM c)] (.int (Gf l c)):=by
 refine PCall.body Tryz.func178 rfl rfl Tryz.ntmps178 rfl rfl ?_
 repeat' (first|refine qS ?_|apply sqW|refine rgK fun U V=>?_|(refine aN V ?_;clear V U)|refine aB ?_|refine blK ?_)
 refine lpW (ι:=Nat) (fun k=>[(0,.sl 3 (l.map aM) .no),(3,.ptr 0 0),(5,.int k)]) (fun _=>[.var (aM c)]) (fun k=>k≤l.length∧∀j,j<k→eqC c (l.getD j default)=false) (fun k=>l.length - k) 0 ⟨nZl _,fun j h=>absurd h oM⟩ ⟨rfl,rfl,rfl,tI⟩ rfl ?_;rintro k ⟨hk,au⟩;by_cases hlt:k<l.length
 · repeat' (first|refine qT ?_|apply sqW|refine rgK fun U V=>?_|(refine aN V ?_;clear V U)|refine cX ?_ ?_<;>intro hc<;>try simp only[dE] at hc|refine blK ?_|refine exW ?_|refine skW ?_|refine rtW ?_|refine kD fun U V=>?_|(refine aqN (V _ ?_);clear V U)|refine aqQ rfl rfl (fun hg=>by first|exact aa|exact PRun.eqS flC rfl rfl nd rfl nd rfl|exact af) (by exact rfl) ?_)
   all_goals first|(exfalso;omega)|skip
   · exact⟨.inr rfl,Ent.int (bP (p:=eqC c) hlt hc au).symm⟩
   · exact⟨k+1,⟨oM,fun j hj=>aH au hc hj⟩,oM,⟨rfl,rfl,rfl,tI⟩,rfl⟩
 · repeat' (first|refine qT ?_|apply sqW|refine rgK fun U V=>?_|(refine aN V ?_;clear V U)|refine cX ?_ ?_<;>intro hc<;>try simp only[dE] at hc|refine blK ?_|refine exW ?_|refine skW ?_|refine rtW ?_|refine kD fun U V=>?_|refine aqQ rfl rfl (fun hg=>by first|exact aa|exact af) (by exact rfl) ?_)
   all_goals first|(exfalso;omega)|skip
   exact⟨.inr rfl,Ent.int (bX (p:=eqC c) fun j hj=>au j oM).symm⟩
theorem we (l:List bV) (bars:Int) (hl:l.length≤1000000000):PCall Tryz.prog 174 [.sl 3 (l.map ba) .no,.int bars] (.b (cT bars 0 l&&decide (l.length≤100))):=by
 refine PCall.body Tryz.func174 rfl rfl Tryz.ntmps174 rfl rfl ?_
 repeat' (first|refine qT ?_|apply sqW|refine rgK fun U V=>?_|(refine aN V ?_;clear V U)|refine cX ?_ ?_<;>intro hc<;>try simp only[dE] at hc|refine blK ?_|refine skW ?_|refine rtW ?_)
 · exact⟨.inr rfl,Ent.b (by rw[decide_eq_false (show ¬l.length≤100 by omega),zD5])⟩
 rw[decide_eq_true (show l.length≤100 by omega),zCf];refine lpW (ι:=Nat) (fun k=>[(0,.sl 3 (l.map ba) .no),(1,.int bars),(5,.int (gB l k)),(6,.int k)]) (fun _=>[]) (fun k=>k≤l.length∧cT bars 0 l=cT bars (gB l k) (l.drop k)) (fun k=>l.length - k) 0 ⟨nZl _,rfl⟩ ⟨rfl,rfl,rfl,rfl,tI⟩ rfl ?_;clear hc;rintro k ⟨hk,hinv⟩;by_cases hlt:k<l.length
 · obtain⟨r,hr⟩:∃r,l.getD k default=r:=⟨_,rfl⟩
   have e1:cT bars (gB l k) (l.drop k)=(!(decide (r.from_<gB l k)||decide (r.ak≤r.from_)||decide (bars<r.ak)||decide (r.times<1)||decide (9<r.times))&&cT bars (gB l (k+1)) (l.drop (k+1))):=by
    rw[fq hlt,←hr];rfl
   have e2:gB l (k+1)=r.ak:=hr▸rfl
   repeat' (first|refine qP ?_ (h:=fun hg=>by first|exact iX ba l ((k:Nat):Int) hr (hb:=oM)|exact aa|exact af)|apply sqW|refine rgK fun U V=>?_|(refine aN V ?_;clear V U)|refine cX ?_ ?_<;>intro hc<;>try simp only[dE] at hc|refine blK ?_|refine exW ?_|refine skW ?_|refine rtW ?_|refine kD fun U V=>?_|(refine aqN (V _ ?_);clear V U)|refine aqQ rfl rfl (fun hg=>by first|exact iX ba l ((k:Nat):Int) hr (hb:=oM)|exact aa|exact af) (by exact rfl) ?_)
   all_goals first|(exfalso;omega)|skip
   · refine⟨.inr rfl,Ent.b ?_⟩;have hc2:(decide (r.from_<gB l k)||decide (r.ak≤r.from_)||decide (bars<r.ak)||decide (r.times<1)||decide (9<r.times))=true:=hc;rw[hinv,e1,hc2];rfl
   · have hc2:(decide (r.from_<gB l k)||decide (r.ak≤r.from_)||decide (bars<r.ak)||decide (r.times<1)||decide (9<r.times))=false:=hc;rw[hc2,zDh,zAy] at e1;exact⟨k+1,⟨oM,hinv.trans e1⟩,oM,⟨rfl,rfl,congrArg AV.int e2.symm,rfl,tI⟩,rfl⟩
 · repeat' (first|refine qT ?_|apply sqW|refine rgK fun U V=>?_|(refine aN V ?_;clear V U)|refine cX ?_ ?_<;>intro hc<;>try simp only[dE] at hc|refine blK ?_|refine exW ?_|refine skW ?_|refine rtW ?_|refine kD fun U V=>?_|(refine aqN (V _ ?_);clear V U)|refine aqQ rfl rfl (fun hg=>by first|exact aa|exact af) (by exact rfl) ?_)
   all_goals first|(exfalso;omega)|skip
   refine⟨.inr rfl,Ent.b ?_⟩;rw[hinv,zBh oM];rfl
theorem wg (f:aG) (hf:FIn f):PCall Tryz.prog 175 [.agg (aP f)] (.b (dy f.ar 0 f.ends&&decide (f.ends.length≤100))):=by
 have hl:=hf.ends;have hlr:=hf.ar;refine PCall.body Tryz.func175 rfl rfl Tryz.ntmps175 rfl rfl ?_
 repeat' (first|refine qT ?_|apply sqW|refine rgK fun U V=>?_|(refine aN V ?_;clear V U)|refine aB ?_|refine cX ?_ ?_<;>intro hc<;>try simp only[dE] at hc|refine blK ?_|refine skW ?_|refine rtW ?_)
 · exact⟨.inr rfl,Ent.b (by rw[decide_eq_false (show ¬f.ends.length≤100 by omega),zD5])⟩
 rw[decide_eq_true (show f.ends.length≤100 by omega),zCf];refine lpD (ι:=Nat) (fun k=>[(1,.ptr 0 0),(3,.int (gC f.ends k)),(4,.int k)]) (fun _=>[.var (aP f)]) (fun k=>k≤f.ends.length∧dy f.ar 0 f.ends=dy f.ar (gC f.ends k) (f.ends.drop k)) (fun k=>f.ends.length - k) 1 (fun _=>rfl) 0 ⟨nZl _,rfl⟩ ⟨rfl,rfl,rfl,tI⟩ rfl (fun _ _=>rfl) (fun _ _=>rfl) ?_;clear hc;rintro k ⟨hk,hinv⟩;by_cases hlt:k<f.ends.length
 · obtain⟨r,hr⟩:∃r,f.ends.getD k default=r:=⟨_,rfl⟩
   have e1:dy f.ar (gC f.ends k) (f.ends.drop k)=(!(decide (r.from_<gC f.ends k)||decide (r.ak≤r.from_)||!eT f.ar r.from_ r.ak||decide (r.pass<1)||decide (9<r.pass))&&dy f.ar (gC f.ends (k+1)) (f.ends.drop (k+1))):=by
    rw[fq hlt,←hr];rfl
   have e2:gC f.ends (k+1)=r.ak:=hr▸rfl;have hin:=x9 f.ar r.from_ r.ak hlr
   repeat' (first|refine qP ?_ (h:=fun hg=>by first|exact iX ck f.ends ((k:Nat):Int) hr (hb:=oM)|exact aa|exact pc hin|exact af)|apply sqW|refine rgK fun U V=>?_|(refine aN V ?_;clear V U)|refine aS ?_|refine aA ?_|refine cX ?_ ?_<;>intro hc<;>try simp only[dE] at hc|refine blK ?_|refine exW ?_|refine skW ?_|refine rtW ?_)
   all_goals first|(exfalso;omega)|skip
   · refine⟨.inr rfl,Ent.b ?_⟩;have hc2:(decide (r.from_<gC f.ends k)||decide (r.ak≤r.from_)||!eT f.ar r.from_ r.ak||decide (r.pass<1)||decide (9<r.pass))=true:=hc;rw[hinv,e1,hc2];rfl
   · have hc2:(decide (r.from_<gC f.ends k)||decide (r.ak≤r.from_)||!eT f.ar r.from_ r.ak||decide (r.pass<1)||decide (9<r.pass))=false:=hc;rw[hc2,zDh,zAy] at e1;exact⟨k+1,⟨oM,hinv.trans e1⟩,oM,⟨rfl,congrArg AV.int e2.symm,rfl,tI⟩,rfl⟩
 · repeat' (first|refine qT ?_|apply sqW|refine rgK fun U V=>?_|(refine aN V ?_;clear V U)|refine aS ?_|refine aA ?_|refine cX ?_ ?_<;>intro hc<;>try simp only[dE] at hc|refine blK ?_|refine exW ?_|refine skW ?_|refine rtW ?_)
   all_goals first|(exfalso;omega)|skip
   refine⟨.inr rfl,Ent.b ?_⟩;rw[hinv,zBh oM];rfl
theorem BO (f:aG) (hf:FIn f):PCall Tryz.prog 176 [.agg (aP f)] (.b (dC f)):=by
 have w:=fun bar=>x8 f.ar bar hf.ar
 have hj0:(f.jump.at_==0&&(f.jump.to==0&&(f.jump.ch==0&&true)))=decide (f.jump=⟨0,0,0⟩):=by
  rw[zAi];obtain⟨a,b,c⟩:=f.jump;simp
 refine PCall.body Tryz.func176 rfl rfl Tryz.ntmps176 rfl rfl ?_
 repeat' (first|refine qP ?_ (h:=fun hg=>by first|exact aa|exact pc (w _)|exact pbD ab rfl rfl nds|exact PRun.eqS flJ rfl rfl nd rfl nd rfl|exact af)|apply sqW|refine rgK fun U V=>?_|(refine aN V ?_;clear V U)|refine aB ?_|refine aS ?_|refine aA ?_|refine cX ?_ ?_<;>intro hc<;>try simp only[dE] at hc|refine skW ?_|refine rtW ?_)
 · refine⟨.inr rfl,Ent.b ?_⟩;unfold dC;rw[←hj0,hc];rfl
 · rename_i hc0;refine⟨.inr rfl,Ent.b ?_⟩;have hc2:(decide (f.jump.at_<1)||decide (f.bars<f.jump.at_)||decide (f.jump.to<0)||decide (f.jump.at_≤f.jump.to)||decide (f.jump.ch≤f.jump.to)||decide (f.bars<f.jump.ch))=true:=hc;unfold dC;rw[←hj0,hc0,hc2];rfl
 · rename_i hc0;refine⟨.inr rfl,Ent.b ?_⟩;have hc2:(decide (f.jump.at_<1)||decide (f.bars<f.jump.at_)||decide (f.jump.to<0)||decide (f.jump.at_≤f.jump.to)||decide (f.jump.ch≤f.jump.to)||decide (f.bars<f.jump.ch))=false:=hc;unfold dC;rw[←hj0,hc0,hc2];rfl
end Go.Proofs.YthiaimakjmhegaaGreatDoor.Pl
