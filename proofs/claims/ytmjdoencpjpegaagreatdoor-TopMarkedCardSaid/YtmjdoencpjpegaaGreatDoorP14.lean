/- Parts of the proof. No statement is proved here. -/
import Derived.Lib.SlicesS
import Derived.Test.YtmjdoencpjpegaaGreatDoorP8
import Derived.Test.YtmjdoencpjpegaaGreatDoorP9
set_option linter.unusedVariables false
set_option linter.unusedSimpArgs false
set_option maxHeartbeats 16000000
set_option maxRecDepth 20000
namespace Go.Proofs.YtmjdoencpjpegaaGreatDoor.Ed
open Go.Ab
attribute [local irreducible] AWP AOps EStep AQ PStep PRun PCall TCall VCall
structure sq where
 number:Int
 bar:Int
 pass:Int
 deriving Inhabited
structure Letter where
 name:ByteArray
 pos:Int
 deriving Inhabited
structure gM where
 id:Int
 version:Int
 bars:List sq
 letters:List Letter
def bt (p:sq):List AV:=[.int p.number,.int p.bar,.int p.pass]
def encL (p:Letter):List AV:=[.str p.name,.int p.pos]
def fN (e:gM):List AV:=[.int e.id,.int e.version,.sl 3 (e.bars.map bt) .no,.sl 2 (e.letters.map encL) .no]
def nameAt (s:ByteArray) (i:Nat):Bool :=
 (decide (((s.data.toList.getD i 0).toNat:Int)≥65)&&decide (((s.data.toList.getD i 0).toNat:Int)≤90)) ||
 ((decide (((s.data.toList.getD i 0).toNat:Int)≥48)&&decide (((s.data.toList.getD i 0).toNat:Int)≤57))&&decide (i≠0))
def CW (s:ByteArray):Bool:=decide (1≤s.size)&&decide (s.size≤12)&&(List.range s.size).all (nameAt s)
def Kn (l:List Letter) (nm:ByteArray):Int:=aX (fun x=>x.name.toList==nm.toList) l
def nH (p:sq):Bool:=inB p.number 0 100000&&inB p.bar 1 1000000&&inB p.pass 0 9
def MT (e:gM) (i:Nat):Bool :=
 CW (e.letters.getD i default).name&&inB (e.letters.getD i default).pos 0 ((e.bars.length:Int) - 1)&&Kn e.letters (e.letters.getD i default).name==(i:Int)
def LK (e:gM):Bool:=inB e.id 1 1000000&&inB e.version 1 1000000&&inB e.bars.length 1 4000&&decide ((e.letters.length:Int)≤1000)
def xZ (e:gM):Bool:=LK e&&e.bars.all nH&&(List.range e.letters.length).all (MT e)
def E3 (l:List Letter):List (ByteArray×Int):=l.foldl (fun al x=>ins al x.name x.pos) []
theorem bT {α:Type} [Inhabited α] {l:List α} {k:Nat} (h:k<l.length):l.getD k default∈l:=by
 rw[aU h];exact lGm h
theorem E4 {α:Type} [Inhabited α] (p:α→Bool) (l:List α):(!decide (aX p l≥0))=l.all fun x=>!p x:=by
 rw[zB3];simp only[zB1,dEf,zA6];constructor
 · intro h x hx;cases hpx:p x with
   |false=>rfl
   | true =>
     exfalso;apply h;unfold aX;cases hf:l.findIdx? p with
     |none=>rw[zDn] at hf;have:=hf x hx;rw[hpx] at this;cases this
     |some i=>simp
 · intro h h2;obtain⟨k,_,hk,hpk,_⟩:=eh h2;have:=h _ (bT hk);rw[hpk] at this;cases this
end Go.Proofs.YtmjdoencpjpegaaGreatDoor.Ed
/- Letter, Number, Place, Visit. -/
namespace Go.Proofs.YtmjdoencpjpegaaGreatDoor.Ed
open Go.Ab
attribute [local irreducible] AWP AOps EStep AQ PStep PRun PCall TCall VCall
def numP (n:Int) (b:sq):Bool:=b.number==n
def Hl (e:gM) (n:Int):Int:=aX (numP n) e.bars
def numR (e:gM) (n:Int):Int×Int :=
 if xZ e&&inB n 0 100000 then
  (if Hl e n<0 then (0,4) else if aX (numP n) (e.bars.drop (Hl e n+1).toNat)≥0 then (0,5) else (Hl e n,0))
 else (0,1)
def letR (e:gM) (nm:ByteArray):Int×Int :=
 if xZ e&&CW nm then (match lk (E3 e.letters) nm with|some i=>(i,0)|none=>(0,4)) else (0,1)
structure ViR where
 bar:Int
 pass:Int
 err:Int
 deriving DecidableEq
def viR (e:gM) (i pass:Int):ViR :=
 if xZ e&&inB i 0 ((e.bars.length:Int) - 1)&&inB pass 0 20000 then
  (if (e.bars.getD i.toNat default).pass=0 then ⟨(e.bars.getD i.toNat default).bar,max 1 pass,0⟩
   else if pass>1 then ⟨0,0,30⟩ else ⟨(e.bars.getD i.toNat default).bar,(e.bars.getD i.toNat default).pass,0⟩)
 else ⟨0,0,1⟩
end Go.Proofs.YtmjdoencpjpegaaGreatDoor.Ed
namespace Go.Ab
def ekC (c:Go.Pl.cd):Value:=.agg #[.int .i64 c.from_,.int .i64 c.aI,.int .i64 c.pass]
def fieldsOf (P:Program) (t:TypeId):Array Field:=match P.underlying t with|some (.struct F)=>F|_=>#[]
theorem zj {P : Program} {kt e : TypeId} (hk : P.underlying kt = some (.struct (fieldsOf P kt))) (hF : (fieldsOf P kt).toList.map (fun f => (f.name == "_", f.type, f.offset)) = [(false, e, 0), (false, e, 1), (false, e, 2)]) (he : P.underlying e = some (.int .i64)) (hfe : fZ P 7 e = some [.int .i64]) (hf : fZ P 8 kt = some [.int .i64, .int .i64, .int .i64]) : KeyLaw P kt ekC where
 check w em k:=by
  have hv:∀a:Value,ff P e [a]=a:=fun a=>by simp[ff,he,ltOf,LT.isAgg]
  have p0:=gR hfe #[.int .i64 k.from_,.int .i64 k.aI,.int .i64 k.pass] 0 sMp w;have p1:=gR hfe #[.int .i64 k.from_,.int .i64 k.aI,.int .i64 k.pass] 1 sMp w;have p2:=gR hfe #[.int .i64 k.from_,.int .i64 k.aI,.int .i64 k.pass] 2 sMp w;have q0:(List.take [LT.int IntKind.i64].length (List.drop 0 (#[Value.int .i64 k.from_,Value.int .i64 k.aI,Value.int .i64 k.pass]).toList))=[.int .i64 k.from_]:=rfl;have q1:(List.take [LT.int IntKind.i64].length (List.drop 1 (#[Value.int .i64 k.from_,Value.int .i64 k.aI,Value.int .i64 k.pass]).toList))=[.int .i64 k.aI]:=rfl;have q2:(List.take [LT.int IntKind.i64].length (List.drop 2 (#[Value.int .i64 k.from_,Value.int .i64 k.aI,Value.int .i64 k.pass]).toList))=[.int .i64 k.pass]:=rfl;rw[q0,hv] at p0;rw[q1,hv] at p1;rw[q2,hv] at p2;have c:∀a,(Instr.checkKey em 9999 e (.int .i64 a)).run P w=.ok () w:=fun a=>by
   show(Instr.checkKey em (9998+1) e (.int .i64 a)).run P w=_;rw[Instr.checkKey,Sem.run_bind,run_underlying he w];rfl
  show(Instr.checkKey em (9999+1) kt (ekC k)).run P w=_;unfold ekC;rw[Instr.checkKey,Sem.run_bind,run_underlying hk w];simp only[Result.andThen_ok];generalize fieldsOf P kt=F at hF;obtain⟨L⟩:=F
  match L,hF with
  |[],hF=>simp at hF
  |[_],hF=>simp at hF
  |[_,_],hF=>simp at hF
  |_::_::_::_::_,hF=>simp at hF
  | [f0, f1, f2], hF =>
    simp only[zBd,List.map_nil,List.cons.injEq,Prod.mk.injEq,beq_eq_false_iff_ne,ne_eq,and_true] at hF;obtain⟨⟨n0,t0,o0⟩,⟨n1,t1,o1⟩,n2,t2,o2⟩:=hF;simp[Sem.run_bind,n0,n1,n2,t0,t1,t2,o0,o1,o2,p0,p1,p2,c,Result.andThen]
 find w k es ks h:=by
  have heq:∀a b (w:World),(Op.equal kt (ekC a) (ekC b)).run P w=.ok (decide (b=a)) w:=fun a b w=>by
   have e:=sf w 8 kt _ hf 10000 dCd [.int .i64 a.from_,.int .i64 a.aI,.int .i64 a.pass] [.int .i64 b.from_,.int .i64 b.aI,.int .i64 b.pass] (decide (b=a)) (by
    obtain⟨a1,a2,a3⟩:=a;obtain⟨b1,b2,b3⟩:=b;have e1:eQ [LT.int IntKind.i64,LT.int IntKind.i64,LT.int IntKind.i64] [.int .i64 a1,.int .i64 a2,.int .i64 a3] [.int .i64 b1,.int .i64 b2,.int .i64 b3]=some (a1==b1&&(a2==b2&&(a3==b3&&true))):=by simp[eQ,eqV]
    rw[e1];congr 1;rw[zB3];simp;exact⟨fun ⟨h1,h2,h3⟩=>⟨h1.symm,h2.symm,h3.symm⟩,fun ⟨h1,h2,h3⟩=>⟨h1.symm,h2.symm,h3.symm⟩⟩)
   have hv:∀z:List Value,ff P kt z=.agg z.toArray:=fun z=>by simp[ff,hk,ltOf,LT.isAgg]
   rw[hv,hv] at e;exact e
  unfold Instr.findKey;rw[Sem.run_bind,run_underlying hk w];simp only[Result.andThen_ok]
  match es,ks,h with
  |[],[],_=>rfl
  |[],_::_,h=>simp at h
  |_::_,[],h=>simp at h
  | e0 :: es, x :: ks, h =>
    have hn:Instr.findNow (.struct (fieldsOf P kt)) (ekC k) (e0::es) 0=none:=rfl;rw[hn];have:=kE heq w k (e0::es) (x::ks) 0 h;simpa using this
 stays w k:=by
  unfold Instr.keyThatStays;have:Instr.sameBits 10000 (ekC k) (ekC k)=true:=by
   show Instr.sameBits (9999+1) (ekC k) (ekC k)=true;simp[Instr.sameBits,ekC]
  rw[if_pos this];rfl
end Go.Ab
namespace Go.Proofs.YtmjdoencpjpegaaGreatDoor.Pl
open Go.Ab Go.Pl
attribute [local irreducible] AWP AOps EStep AQ PStep PRun PCall TCall VCall
def bk (r:cL):List AV:=[.int r.from_,.int r.aI,.int r.times]
def cD (x:jT):List AV:=[.int x.from_,.int x.aI,.int x.pass]
def aW (c:cd):List AV:=[.int c.from_,.int c.aI,.int c.pass]
def bl (f:aR):List AV:=[.int f.bars,.sl 3 (f.aC.map bk) .no,.sl 3 (f.ends.map cD) .no,.int f.jump.at_,.int f.jump.to,.int f.jump.dc,.sl 3 (f.cuts.map aW) .no]
structure FIn (f:aR):Prop where
 aC:f.aC.length≤1000000000
 ends:f.ends.length≤1000000000
 cuts:f.cuts.length≤1000000000
theorem il {α:Type} [Inhabited α] {l:List α} {k:Nat} (h:k<l.length):l.getD k default∈l:=by
 rw[show l.getD k default=l[k] by simp[List.getD,h]];exact lGm h
theorem lj {α:Type} [Inhabited α] {l:List α} {k:Nat} (h:k<l.length):l.getD k default=l[k]:=by simp[List.getD,h]
theorem pO {α:Type} [Inhabited α] (p:α→Bool) (l:List α):decide (aX p l≥0)=l.any p:=by
 have:=Ed.E4 p l;rw[zB3];cases h:l.any p with
 | true =>
   have h2:(l.all fun x=>!p x)=false:=by
    rw[Bool.eq_false_iff];intro h3;obtain⟨x,hx,hp⟩:=zDh.1 h;have:=zA6.1 h3 x hx;rw[hp] at this;cases this
   rw[h2] at this;simpa using this
 | false =>
   have h2:(l.all fun x=>!p x)=true:=by
    rw[zA6];intro x hx;rw[zE3] at h;simpa using h x hx
   rw[h2] at this;simpa using this
theorem mE {α:Type} [Inhabited α] {l:List α} {k:Nat} (h:k<l.length):l.drop k=l.getD k default::l.drop (k+1):=by
 rw[lj h,zBj h]
theorem wS (l:List cL) (fv:AV) (p:cL→Bool) (hp:∀x∈l,fw Tryz.prog fv [.agg (bk x)] (.b (p x))) (hl:l.length≤1000000000) :
 PCall Tryz.prog 217 [.sl 3 (l.map bk) .no,fv] (.int (aX p l)):=by
 refine PCall.lG [1] Tryz.func217 rfl rfl Tryz.ntmps217 rfl rfl ?_
 repeat' (first|refine qT ?_|apply sqW|refine rgK fun U V=>?_|(refine aN V ?_;clear V U)|refine blK ?_)
 refine lpW (ι:=Nat) (fun k=>[(0,.sl 3 (l.map bk) .no),(1,.ext fv),(7,.int l.length),(8,.int k)]) (fun _=>[]) (fun k=>k≤l.length∧∀j,j<k→p (l.getD j default)=false) (fun k=>l.length - k) 0 ⟨nZl _,fun j h=>absurd h oM⟩ ⟨rfl,rfl,rfl,rfl,tI⟩ rfl ?_;rintro k ⟨hk,aT⟩;by_cases hlt:k<l.length
 · repeat' (first|refine qP ?_ (h:=fun hg=>by first|exact ae|exact PRun.r9 (hp _ (il hlt)) rfl rfl nd rfl nds|exact ah)|apply sqW|refine rgK fun U V=>?_|(refine aN V ?_;clear V U)|refine cX ?_ ?_<;>intro hc<;>try simp only[dE] at hc|refine blK ?_|refine exW ?_|refine skW ?_|refine rtW ?_)
   · refine⟨.inr rfl,?_⟩;rw[show aX p l=k from eP hlt hc aT];exact fun _ _ h=>h
   · exact⟨k+1,⟨oM,fun j hj=>bA aT hc hj⟩,oM,⟨rfl,rfl,rfl,rfl,tI⟩,rfl⟩
   · exfalso;omega
 · repeat' (first|refine qT ?_|apply sqW|refine rgK fun U V=>?_|(refine aN V ?_;clear V U)|refine cX ?_ ?_<;>intro hc<;>try simp only[dE] at hc|refine blK ?_|refine exW ?_|refine skW ?_|refine rtW ?_)
   · exfalso;omega
   · refine⟨.inr rfl,?_⟩;rw[show aX p l = -1 from gq fun j hj=>aT j oM];exact fun _ _ h=>h
theorem uH (l:List cL) (fv:AV) (p:cL→Bool) (hp:∀x∈l,fw Tryz.prog fv [.agg (bk x)] (.b (p x))) (hl:l.length≤1000000000) :
 PCall Tryz.prog 188 [.sl 3 (l.map bk) .no,fv] (.b (l.any p)):=by
 rw[←pO];refine PCall.lG [1] Tryz.func188 rfl rfl Tryz.ntmps188 rfl rfl ?_
 repeat' (first|refine qP ?_ (h:=fun hg=>by first|exact ae|exact pc (wS l fv p hp hl)|exact ah)|apply sqW|refine rgK fun U V=>?_|(refine aN V ?_;clear V U)|refine rtW ?_)
 exact⟨.inr rfl,fun _ _ h=>h⟩
theorem E5 (l:List jT) (fv:AV) (p:jT→Bool) (hp:∀x∈l,fw Tryz.prog fv [.agg (cD x)] (.b (p x))) (hl:l.length≤1000000000) :
 PCall Tryz.prog 246 [.sl 3 (l.map cD) .no,fv] (.int (aX p l)):=by
 refine PCall.lG [1] Tryz.func246 rfl rfl Tryz.ntmps246 rfl rfl ?_
 repeat' (first|refine qT ?_|apply sqW|refine rgK fun U V=>?_|(refine aN V ?_;clear V U)|refine blK ?_)
 refine lpW (ι:=Nat) (fun k=>[(0,.sl 3 (l.map cD) .no),(1,.ext fv),(7,.int l.length),(8,.int k)]) (fun _=>[]) (fun k=>k≤l.length∧∀j,j<k→p (l.getD j default)=false) (fun k=>l.length - k) 0 ⟨nZl _,fun j h=>absurd h oM⟩ ⟨rfl,rfl,rfl,rfl,tI⟩ rfl ?_;rintro k ⟨hk,aT⟩;by_cases hlt:k<l.length
 · repeat' (first|refine qP ?_ (h:=fun hg=>by first|exact ae|exact PRun.r9 (hp _ (il hlt)) rfl rfl nd rfl nds|exact ah)|apply sqW|refine rgK fun U V=>?_|(refine aN V ?_;clear V U)|refine cX ?_ ?_<;>intro hc<;>try simp only[dE] at hc|refine blK ?_|refine exW ?_|refine skW ?_|refine rtW ?_)
   · refine⟨.inr rfl,?_⟩;rw[show aX p l=k from eP hlt hc aT];exact fun _ _ h=>h
   · exact⟨k+1,⟨oM,fun j hj=>bA aT hc hj⟩,oM,⟨rfl,rfl,rfl,rfl,tI⟩,rfl⟩
   · exfalso;omega
 · repeat' (first|refine qT ?_|apply sqW|refine rgK fun U V=>?_|(refine aN V ?_;clear V U)|refine cX ?_ ?_<;>intro hc<;>try simp only[dE] at hc|refine blK ?_|refine exW ?_|refine skW ?_|refine rtW ?_)
   · exfalso;omega
   · refine⟨.inr rfl,?_⟩;rw[show aX p l = -1 from gq fun j hj=>aT j oM];exact fun _ _ h=>h
theorem CY (l:List jT) (fv:AV) (p:jT→Bool) (hp:∀x∈l,fw Tryz.prog fv [.agg (cD x)] (.b (p x))) (hl:l.length≤1000000000) :
 PCall Tryz.prog 240 [.sl 3 (l.map cD) .no,fv] (.b (l.any p)):=by
 rw[←pO];refine PCall.lG [1] Tryz.func240 rfl rfl Tryz.ntmps240 rfl rfl ?_
 repeat' (first|refine qP ?_ (h:=fun hg=>by first|exact ae|exact pc (E5 l fv p hp hl)|exact ah)|apply sqW|refine rgK fun U V=>?_|(refine aN V ?_;clear V U)|refine rtW ?_)
 exact⟨.inr rfl,fun _ _ h=>h⟩
theorem zk (r:cL) (bar:Int):PCall Tryz.prog 218 [.agg (bk r),.iptr [.int bar]] (.b (decide (r.from_<bar)&&decide (bar<r.aI))):=by
 refine PCall.body Tryz.func218 rfl rfl Tryz.ntmps218 rfl rfl ?_
 repeat' (first|refine qS ?_|apply sqW|refine rgK fun U V=>?_|(refine aN V ?_;clear V U)|refine aB ?_|refine rtW ?_)
 exact⟨.inr rfl,Ent.b rfl⟩
theorem xE (f:aR) (hf:FIn f) (bar:Int):PCall Tryz.prog 190 [.agg (bl f),.int bar] (.b (j7 f.aC bar)):=by
 have h1:=uH f.aC (.fn (.func 218) [] [.iptr [.int bar]]) (fun r=>decide (r.from_<bar)&&decide (bar<r.aI)) (fun x _=>⟨_,[],_,rfl,zk x bar⟩) hf.aC;refine PCall.body Tryz.func190 rfl rfl Tryz.ntmps190 rfl rfl ?_
 repeat' (first|refine qP ?_ (h:=fun hg=>by first|exact ae|exact pbW (h1) rfl rfl nd rfl rfl nds|exact ah)|apply sqW|refine rgK fun U V=>?_|(refine aN V ?_;clear V U)|refine aB ?_|refine rtW ?_)
 exact⟨.inr rfl,Ent.b rfl⟩
def pP (l:List cL):Nat→Int
 |0=>0
 |k+1=>(l.getD k default).aI
theorem uI (f:aR) (hf:FIn f):PCall Tryz.prog 148 [.agg (bl f)] (.b (eG f.bars 0 f.aC&&decide (f.aC.length≤100))):=by
 have hl:=hf.aC;refine PCall.body Tryz.func148 rfl rfl Tryz.ntmps148 rfl rfl ?_
 repeat' (first|refine qT ?_|apply sqW|refine rgK fun U V=>?_|(refine aN V ?_;clear V U)|refine aB ?_|refine blK ?_)
 refine lpD (ι:=Nat) (fun k=>[(1,.ptr 0 0),(3,.int (pP f.aC k)),(8,.sl 3 (f.aC.map bk) .no),(9,.int f.aC.length),(10,.int k)]) (fun _=>[.var (bl f)])
  (fun k=>k≤f.aC.length∧eG f.bars 0 f.aC=eG f.bars (pP f.aC k) (f.aC.drop k)) (fun k=>f.aC.length - k) 1 (fun _=>rfl) 0 ⟨nZl _,rfl⟩ ⟨rfl,rfl,rfl,rfl,rfl,tI⟩ rfl (fun _ _=>rfl) (fun _ _=>rfl) ?_
 rintro k ⟨hk,hinv⟩;by_cases hlt:k<f.aC.length
 · have e1:eG f.bars (pP f.aC k) (f.aC.drop k)=(!(decide ((f.aC.getD k default).from_<pP f.aC k)||decide ((f.aC.getD k default).aI≤(f.aC.getD k default).from_)||decide (f.bars<(f.aC.getD k default).aI)||decide ((f.aC.getD k default).times<1)||decide (9<(f.aC.getD k default).times))&&eG f.bars (pP f.aC (k+1)) (f.aC.drop (k+1))):=by
    rw[mE hlt];rfl
   repeat' (first|refine qT ?_|apply sqW|refine rgK fun U V=>?_|(refine aN V ?_;clear V U)|refine aS ?_|refine aA ?_|refine cX ?_ ?_<;>intro hc<;>try simp only[dE] at hc|refine blK ?_|refine exW ?_|refine skW ?_|refine rtW ?_)
   all_goals first|(exfalso;omega)|skip
   · refine⟨.inr rfl,Ent.b ?_⟩;rw[zAj] at hc;have hc2:(decide ((f.aC.getD k default).from_<pP f.aC k)||decide ((f.aC.getD k default).aI≤(f.aC.getD k default).from_)||decide (f.bars<(f.aC.getD k default).aI)||decide ((f.aC.getD k default).times<1)||decide (9<(f.aC.getD k default).times))=true:=hc;rw[hinv,e1,hc2];rfl
   · rw[zAj] at hc;have hc2:(decide ((f.aC.getD k default).from_<pP f.aC k)||decide ((f.aC.getD k default).aI≤(f.aC.getD k default).from_)||decide (f.bars<(f.aC.getD k default).aI)||decide ((f.aC.getD k default).times<1)||decide (9<(f.aC.getD k default).times))=false:=hc;rw[hc2,Bool.not_false,zBw] at e1;exact⟨k+1,⟨oM,hinv.trans e1⟩,oM,⟨rfl,rfl,rfl,rfl,rfl,tI⟩,rfl⟩
 · repeat' (first|refine qT ?_|apply sqW|refine rgK fun U V=>?_|(refine aN V ?_;clear V U)|refine aS ?_|refine aA ?_|refine cX ?_ ?_<;>intro hc<;>try simp only[dE] at hc|refine blK ?_|refine exW ?_|refine skW ?_|refine rtW ?_)
   all_goals first|(exfalso;omega)|skip
   refine⟨.inr rfl,Ent.b ?_⟩;rw[hinv,zCx oM];show _=(true&&_);rw[zBw,zB3];simp;omega
theorem CZ (r:cL) (x:jT):PCall Tryz.prog 189 [.agg (bk r),.iptr (cD x)] (.b (decide (r.from_≤x.from_)&&decide (x.aI≤r.aI))):=by
 refine PCall.body Tryz.func189 rfl rfl Tryz.ntmps189 rfl rfl ?_
 repeat' (first|refine qS ?_|apply sqW|refine rgK fun U V=>?_|(refine aN V ?_;clear V U)|refine aB ?_|refine rtW ?_)
 exact⟨.inr rfl,Ent.b rfl⟩
def pQ (l:List jT):Nat→Int
 |0=>0
 |k+1=>(l.getD k default).aI
theorem uJ (f:aR) (hf:FIn f):PCall Tryz.prog 149 [.agg (bl f)] (.b (hK f.aC 0 f.ends&&decide (f.ends.length≤100))):=by
 have hl:=hf.ends;refine PCall.body Tryz.func149 rfl rfl Tryz.ntmps149 rfl rfl ?_
 repeat' (first|refine qT ?_|apply sqW|refine rgK fun U V=>?_|(refine aN V ?_;clear V U)|refine aB ?_|refine blK ?_)
 refine lpD (ι:=Nat) (fun k=>[(1,.ptr 0 0),(3,.int (pQ f.ends k)),(9,.sl 3 (f.ends.map cD) .no),(10,.int f.ends.length),(11,.int k)]) (fun _=>[.var (bl f)])
  (fun k=>k≤f.ends.length∧hK f.aC 0 f.ends=hK f.aC (pQ f.ends k) (f.ends.drop k)) (fun k=>f.ends.length - k) 1 (fun _=>rfl) 0 ⟨nZl _,rfl⟩ ⟨rfl,rfl,rfl,rfl,rfl,tI⟩ rfl (fun _ _=>rfl) (fun _ _=>rfl) ?_
 rintro k ⟨hk,hinv⟩;by_cases hlt:k<f.ends.length
 · have e1:hK f.aC (pQ f.ends k) (f.ends.drop k)=(!(decide ((f.ends.getD k default).from_<pQ f.ends k)||decide ((f.ends.getD k default).aI≤(f.ends.getD k default).from_)||!je f.aC (f.ends.getD k default).from_ (f.ends.getD k default).aI||decide ((f.ends.getD k default).pass<1)||decide (9<(f.ends.getD k default).pass))&&hK f.aC (pQ f.ends (k+1)) (f.ends.drop (k+1))):=by
    rw[mE hlt];rfl
   have h1:=uH f.aC (.fn (.func 189) [] [.iptr (cD (f.ends.getD k default))]) (fun r=>decide (r.from_≤(f.ends.getD k default).from_)&&decide ((f.ends.getD k default).aI≤r.aI)) (fun x _=>⟨_,[],_,rfl,CZ x _⟩) hf.aC;change PCall _ _ _ (.b (je f.aC (f.ends.getD k default).from_ (f.ends.getD k default).aI)) at h1
   repeat' (first|refine qP ?_ (h:=fun hg=>by first|exact ae|exact pbW (h1) rfl rfl nd rfl rfl nds|exact ah)|apply sqW|refine rgK fun U V=>?_|(refine aN V ?_;clear V U)|refine aS ?_|refine aA ?_|refine cX ?_ ?_<;>intro hc<;>try simp only[dE] at hc|refine blK ?_|refine exW ?_|refine skW ?_|refine rtW ?_)
   all_goals first|(exfalso;omega)|skip
   · refine⟨.inr rfl,Ent.b ?_⟩;have hc2:(decide ((f.ends.getD k default).from_<pQ f.ends k)||decide ((f.ends.getD k default).aI≤(f.ends.getD k default).from_)||!je f.aC (f.ends.getD k default).from_ (f.ends.getD k default).aI||decide ((f.ends.getD k default).pass<1)||decide (9<(f.ends.getD k default).pass))=true:=hc;rw[hinv,e1,hc2];rfl
   · have hc2:(decide ((f.ends.getD k default).from_<pQ f.ends k)||decide ((f.ends.getD k default).aI≤(f.ends.getD k default).from_)||!je f.aC (f.ends.getD k default).from_ (f.ends.getD k default).aI||decide ((f.ends.getD k default).pass<1)||decide (9<(f.ends.getD k default).pass))=false:=hc;rw[hc2,Bool.not_false,zBw] at e1;exact⟨k+1,⟨oM,hinv.trans e1⟩,oM,⟨rfl,rfl,rfl,rfl,rfl,tI⟩,rfl⟩
 · repeat' (first|refine qT ?_|apply sqW|refine rgK fun U V=>?_|(refine aN V ?_;clear V U)|refine aS ?_|refine aA ?_|refine cX ?_ ?_<;>intro hc<;>try simp only[dE] at hc|refine blK ?_|refine exW ?_|refine skW ?_|refine rtW ?_)
   all_goals first|(exfalso;omega)|skip
   refine⟨.inr rfl,Ent.b ?_⟩;rw[hinv,zCx oM];show _=(true&&_);rw[zBw,zB3];simp;omega
theorem zl (x:jT) (bar pass:Int):PCall Tryz.prog 241 [.agg (cD x),.iptr [.int bar],.iptr [.int pass]] (.b (decide (x.from_≤bar)&&decide (bar<x.aI)&&!(x.pass==pass))):=by
 refine PCall.body Tryz.func241 rfl rfl Tryz.ntmps241 rfl rfl ?_
 repeat' (first|refine qS ?_|apply sqW|refine rgK fun U V=>?_|(refine aN V ?_;clear V U)|refine aB ?_|refine rtW ?_)
 exact⟨.inr rfl,Ent.b rfl⟩
theorem C0 (l:List jT) (bar pass:Int):l.any (fun x=>decide (x.from_≤bar)&&decide (bar<x.aI)&&!(x.pass==pass))=!mC l bar pass:=by
 unfold mC;induction l with
 |nil=>rfl
 | cons x l ih =>
   rw[List.any_cons,zAq,Bool.not_and,Bool.not_not,ih];congr 1;congr 1;rw[zB3];simp
theorem xF (f:aR) (hf:FIn f) (bar pass:Int):PCall Tryz.prog 225 [.agg (bl f),.int bar,.int pass] (.b (!mC f.ends bar pass)):=by
 have h1:=CY f.ends (.fn (.func 241) [] [.iptr [.int bar],.iptr [.int pass]]) (fun x=>decide (x.from_≤bar)&&decide (bar<x.aI)&&!(x.pass==pass)) (fun x _=>⟨_,[],_,rfl,zl x bar pass⟩) hf.ends;rw[C0] at h1;refine PCall.body Tryz.func225 rfl rfl Tryz.ntmps225 rfl rfl ?_
 repeat' (first|refine qP ?_ (h:=fun hg=>by first|exact ae|exact pbW (h1) rfl rfl nd rfl rfl nds|exact ah)|apply sqW|refine rgK fun U V=>?_|(refine aN V ?_;clear V U)|refine aB ?_|refine rtW ?_)
 exact⟨.inr rfl,Ent.b rfl⟩
theorem flJ:oJ Tryz.prog 39=some [.int .i64,.int .i64,.int .i64]:=by kernel_rfl
theorem AR (f:aR) (hf:FIn f):PCall Tryz.prog 150 [.agg (bl f)] (.b (jx f)):=by
 have w:=xE f hf;refine PCall.body Tryz.func150 rfl rfl Tryz.ntmps150 rfl rfl ?_;have hj0:(f.jump.at_==0&&(f.jump.to==0&&(f.jump.dc==0&&true)))=decide (f.jump=⟨0,0,0⟩):=by
  rw[zB3];obtain⟨a,b,c⟩:=f.jump;simp
 repeat' (first|refine qP ?_ (h:=fun hg=>by first|exact ae|exact pc (w _)|exact pbD ab rfl rfl nds|exact PRun.eqS flJ rfl rfl nd rfl nd rfl|exact ah)|apply sqW|refine rgK fun U V=>?_|(refine aN V ?_;clear V U)|refine aB ?_|refine aS ?_|refine aA ?_|refine cX ?_ ?_<;>intro hc<;>try simp only[dE] at hc|refine skW ?_|refine rtW ?_)
 · refine⟨.inr rfl,Ent.b ?_⟩;unfold jx;rw[←hj0,hc];rfl
 · rename_i hc0;refine⟨.inr rfl,Ent.b ?_⟩;have hc2:(decide (f.jump.at_<1)||decide (f.bars<f.jump.at_)||decide (f.jump.to<0)||decide (f.jump.at_≤f.jump.to)||decide (f.jump.dc≤f.jump.to)||decide (f.bars<f.jump.dc))=true:=hc;unfold jx;rw[←hj0,hc0,hc2];rfl
 · rename_i hc0;refine⟨.inr rfl,Ent.b ?_⟩;have hc2:(decide (f.jump.at_<1)||decide (f.bars<f.jump.at_)||decide (f.jump.to<0)||decide (f.jump.at_≤f.jump.to)||decide (f.jump.dc≤f.jump.to)||decide (f.bars<f.jump.dc))=false:=hc;unfold jx;rw[←hj0,hc0,hc2];rfl
theorem uK (f:aR) (c:cd):PCall Tryz.prog 124 [.agg (bl f),.agg (aW c)] (.b (iB f.bars c)):=by
 refine PCall.body Tryz.func124 rfl rfl Tryz.ntmps124 rfl rfl ?_
 repeat' (first|refine qS ?_|apply sqW|refine rgK fun U V=>?_|(refine aN V ?_;clear V U)|refine aB ?_|refine rtW ?_)
 exact⟨.inr rfl,Ent.b rfl⟩
theorem E6:KeyLaw Tryz.prog 158 ekC:=zj (e:=3) (by kernel_rfl) (by kernel_rfl) (by kernel_rfl) (by kernel_rfl) (by kernel_rfl)
def nP (l:List cd):List (cd×Bool):=l.map fun c=>(c,true)
theorem Hm (l:List cd) (c:cd):(lk (nP l) c).getD false=decide (c∈l):=by
 induction l with
 |nil=>rfl
 | cons x l ih =>
   show(lk ((x,true)::nP l) c).getD false=_;simp only[lk];by_cases h:x=c
   · subst h;simp
   · rw[if_neg h,ih,zB3];simp[Ne.symm h,fun e:c=x=>h e.symm]
theorem zm (f:aR) (hf:FIn f):PCall Tryz.prog 151 [.agg (bl f)] (.b (jy f.bars f.cuts&&decide (f.cuts.length≤100))):=by
 have hl:=hf.cuts;refine PCall.body Tryz.func151 rfl rfl Tryz.ntmps151 rfl rfl ?_
 repeat' (first|refine qT ?_|apply sqW|refine rgK fun U V=>?_|(refine aN V ?_;clear V U)|refine aB ?_|refine aoE (EStep.cz rfl rfl rfl rfl ?_)|refine blK ?_)
 refine lpD (ι:=Nat) (fun k=>[(1,.ptr 0 0),(3,.map 1),(9,.sl 3 (f.cuts.map aW) .no),(10,.int f.cuts.length),(11,.int k)]) (fun k=>[.var (bl f),.map (aD ekC AV.b (nP (f.cuts.take k)))])
  (fun k=>k≤f.cuts.length∧(∀j,j<k→iB f.bars (f.cuts.getD j default)=true)∧(f.cuts.take k).Nodup) (fun k=>f.cuts.length - k) 2 (fun _=>rfl) 0 ⟨nZl _,fun j h=>absurd h oM,by simp⟩ ⟨rfl,rfl,rfl,rfl,rfl,tI⟩ rfl (fun _ _=>rfl) (fun k _=>by simp[ak,aD,aG,bl]) ?_
 rintro k ⟨hk,aT,hnd⟩;by_cases hlt:k<f.cuts.length
 · have hs:=Hm (f.cuts.take k) (f.cuts.getD k default);have w:=uK f (f.cuts.getD k default);have hm:=il hlt
   repeat' (first|refine qP ?_ (h:=fun hg=>by first|exact ae|exact pc w|exact PRun.lookup (ek:=ekC) (ev:=AV.b) (zv:=false) E6 (lkG rfl) (lkG rfl) rfl rfl (Rd.w rfl nd) (Or.inr ⟨_,rfl,rfl⟩) (Rd.w rfl nd) rfl|exact ah)|apply sqW|refine rgK fun U V=>?_|(refine aN V ?_;clear V U)|refine aS ?_|refine aA ?_|refine aoE (EStep.dm (ek:=ekC) (ev:=AV.b) (v:=true) E6 (lkG rfl) rfl rfl rfl (Rd.w rfl tI) rfl (Rd.w rfl tI) rfl (Rd.w rfl tI) ?_)|refine cX ?_ ?_<;>intro hc<;>try simp only[dE] at hc|refine blK ?_|refine exW ?_|refine skW ?_|refine rtW ?_)
   all_goals first|(exfalso;omega)|skip
   · refine⟨.inr rfl,Ent.b (Eq.symm ?_)⟩;rw[zAj,hs] at hc;rw[zBr];left;cases h1:jy f.bars f.cuts with
     |false=>rfl
     | true =>
       exfalso;unfold jy at h1;simp only[zA0,zA6,dEt] at h1;rw[h1.1 _ hm] at hc;have h2:f.cuts.getD k default∈f.cuts.take k:=by simpa using hc
       have h3:=h1.2;rw[←zD4 k f.cuts,mE hlt,zBz] at h3;exact h3.2.2 _ h2 _ (zAr ..) rfl
   · rw[zAj,hs] at hc;simp only[zAl,zB0,dEf] at hc;have e1:f.cuts.take (k+1)=f.cuts.take k++[f.cuts.getD k default]:=by
      rw[zCu,zA1 hlt,lj hlt];rfl
     have e2:ins (nP (f.cuts.take k)) (f.cuts.getD k default) true=nP (f.cuts.take (k+1)):=by
      rw[e1,oQ]
      · unfold nP;rw[zAz];rfl
      · unfold nP;rw[zCo];intro h;obtain⟨x,hx,e⟩:=zAf.1 h;have e:x=f.cuts.getD k default:=e;exact hc.2 (e▸hx)
     refine⟨k+1,⟨oM,fun j hj=>bA aT hc.1 hj,?_⟩,oM,⟨rfl,rfl,rfl,rfl,rfl,tI⟩,?_⟩
     · rw[e1,zBz];exact⟨hnd,by simp,fun a ha b hb e=>by rw[zA9.1 hb] at e;exact hc.2 (e▸ha)⟩
     · rw[zAj];show[aF.var (bl f),aF.map (aD ekC AV.b (ins (nP (f.cuts.take k)) (f.cuts.getD k default) true))]=_;rw[e2]
 · repeat' (first|refine qT ?_|apply sqW|refine rgK fun U V=>?_|(refine aN V ?_;clear V U)|refine aS ?_|refine aA ?_|refine cX ?_ ?_<;>intro hc<;>try simp only[dE] at hc|refine blK ?_|refine exW ?_|refine skW ?_|refine rtW ?_)
   all_goals first|(exfalso;omega)|skip
   refine⟨.inr rfl,Ent.b (Eq.symm ?_)⟩;have e:f.cuts.take k=f.cuts:=zAn oM;rw[e] at hnd;have h1:jy f.bars f.cuts=true:=by
    unfold jy;simp only[zA0,zA6,dEt];refine⟨fun x hx=>?_,hnd⟩;obtain⟨j,hj,e⟩:=List.getElem_of_mem hx;have:=aT j oM;rw[lj hj,e] at this;exact this
   rw[h1,zBw,zB3];simp;omega
end Go.Proofs.YtmjdoencpjpegaaGreatDoor.Pl
