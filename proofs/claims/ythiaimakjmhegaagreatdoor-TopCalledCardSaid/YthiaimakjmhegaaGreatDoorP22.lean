/- Parts of the proof. No statement is proved here. -/
import Derived.Test.YthiaimakjmhegaaGreatDoorP19
set_option linter.unusedVariables false
set_option linter.unusedSimpArgs false
set_option maxHeartbeats 16000000
set_option maxRecDepth 20000
namespace Go.Proofs.YthiaimakjmhegaaGreatDoor.Pl
open Go.Ab Go.Pl
structure Call where
 letter:ByteArray
 number:Int
 bars:Int
 gE:Rat
 pass:Int
structure Mom where
 bar:Int
 pass:Int
 pos:Rat
structure Room where
 version:Int
 form:aG
 aZ:List Int
def bw (c:Call):List AV:=[.str c.letter,.int c.number,.int c.bars,.int c.gE.n,.int c.gE.d,.int c.pass]
def bA (m:Mom):List AV:=[.int m.bar,.int m.pass,.int m.pos.n,.int m.pos.d]
def cJ:Mom:=⟨0,0,⟨0,0⟩⟩
def fa:Call:=⟨⟨#[]⟩,0,0,⟨0,0⟩,0⟩
def kl (c:Call):Bool:=(c.letter.size==0&&inB c.number 0 100000)||(Ed.eB c.letter&&c.number==0)
def cU (c:Call):Bool:=kl c&&(dp c.gE&&decide (c.gE.n<24 * c.gE.d))&&inB c.bars (-1000) 1000&&inB c.pass 0 20000
def tz (s:Score) (r:Room):Bool:=r.version==s.version&&r.form.bars==(s.bars.length:Int)&&aW r.form
def bW (s:Score) (e:Ed.ah) (r:Room):Bool:=bG s&&Ed.bE e&&tz s r
def under (a b:Rat):Bool:=(ee a b).2==0&&decide ((ee a b).1<0)
def qj:HL→Int
 |.yes=>0
 |.cut=>31
 |.never=>30
def reason (s:Score) (r:Room) (m:Mom):Int :=
 if cw s.bars m.bar<0 then 32
 else if under m.pos (s.bars.getD (cw s.bars m.bar).toNat default).len=false then 3
 else qj (force r.form ⟨cw s.bars m.bar,m.pass⟩)
def named (e:Ed.ah) (c:Call):Int×Int:=if c.letter.size≠0 then Ed.gR e c.letter else Ed.gQ e c.number
def resolve (s:Score) (e:Ed.ah) (r:Room) (c:Call):Mom×Int :=
 if (bW s e r&&cU c)=false then (cJ,1)
 else if (named e c).2≠0 then (cJ,(named e c).2)
 else if (decide (0≤(named e c).1+c.bars)&&decide ((named e c).1+c.bars<(e.bars.length:Int)))=false then (cJ,21)
 else if (Ed.viR e ((named e c).1+c.bars) c.pass).err≠0 then (cJ,(Ed.viR e ((named e c).1+c.bars) c.pass).err)
 else if reason s r ⟨(Ed.viR e ((named e c).1+c.bars) c.pass).bar,(Ed.viR e ((named e c).1+c.bars) c.pass).pass,c.gE⟩≠0 then
  (cJ,reason s r ⟨(Ed.viR e ((named e c).1+c.bars) c.pass).bar,(Ed.viR e ((named e c).1+c.bars) c.pass).pass,c.gE⟩)
 else (⟨(Ed.viR e ((named e c).1+c.bars) c.pass).bar,(Ed.viR e ((named e c).1+c.bars) c.pass).pass,c.gE⟩,0)
def gY (m:Mom):Bool:=dp m.pos&&inB m.bar 1 1000000&&inB m.pass 1 20000
def gF (i:Int) (before:Bool) (l:Ed.Letter):Bool:=(decide (l.pos≤i) != before)||decide (max (l.pos - i) (i - l.pos)>1000)
def da (e:Ed.ah) (i:Int) (before:Bool):Nat→Int
 |0 => -1
 | k + 1 =>
   if gF i before (e.letters.getD k default) then da e i before k
   else if da e i before k<0 then (k:Int)
   else if max ((e.letters.getD k default).pos - i) (i - (e.letters.getD k default).pos)<max ((e.letters.getD (da e i before k).toNat default).pos - i) (i - (e.letters.getD (da e i before k).toNat default).pos) then (k:Int)
   else da e i before k
def tA (e:Ed.ah) (n:Int):Nat:=e.bars.countP (Ed.il n)
def fh (e:Ed.ah) (k:Int):Bool:=tA e (e.bars.getD k.toNat default).number==1
def goDown (e:Ed.ah):Nat→Int→Int
 |0,_ => -1
 |n+1,k=>if k<0 then -1 else if fh e k then k else goDown e n (k - 1)
def goUp (e:Ed.ah):Nat→Int→Int
 |0,_ => -1
 |n+1,k=>if (e.bars.length:Int)≤k then -1 else if fh e k then k else goUp e n (k+1)
structure Nm where
 letter:ByteArray
 number:Int
 pos:Int
def mG (e:Ed.ah) (k:Int):Option Nm:=if k<0 then none else some ⟨(e.letters.getD k.toNat default).name,0,(e.letters.getD k.toNat default).pos⟩
def kJ (e:Ed.ah) (k:Int):Option Nm:=if k<0 then none else some ⟨⟨#[]⟩,(e.bars.getD k.toNat default).number,k⟩
def Ca (e:Ed.ah) (i:Int):List (Option Nm) :=
 [mG e (da e i true e.letters.length),kJ e (goDown e 1001 i),mG e (da e i false e.letters.length),kJ e (goUp e 1000 (i+1))]
def sr (e:Ed.ah) (i:Int):Option Nm:=(Ca e i).findSome? id
def iy (s:Score) (e:Ed.ah) (r:Room) (m:Mom):Call×Bool×Int :=
 if (bW s e r&&gY m)=false then (fa,false,1)
 else if reason s r m≠0 then (fa,false,reason s r m)
 else if (Ed.plR e m.bar m.pass).ok=false then (fa,false,0)
 else match sr e (Ed.plR e m.bar m.pass).pos with
  |none=>(fa,false,0)
  |some x=>(⟨x.letter,x.number,(Ed.plR e m.bar m.pass).pos - x.pos,m.pos,(Ed.plR e m.bar m.pass).pass⟩,true,0)
theorem su {e:Ed.ah} {i:Int} {before:Bool}:∀(k:Nat),k≤e.letters.length→da e i before k = -1∨∃j:Nat,da e i before k=j∧j<k∧gF i before (e.letters.getD j default)=false
 |0,_=>.inl rfl
 | k + 1, h => by
   have e1:da e i before (k+1)=if gF i before (e.letters.getD k default) then da e i before k
    else if da e i before k<0 then (k:Int)
    else if max ((e.letters.getD k default).pos - i) (i - (e.letters.getD k default).pos)<max ((e.letters.getD (da e i before k).toNat default).pos - i) (i - (e.letters.getD (da e i before k).toNat default).pos) then (k:Int)
    else da e i before k:=rfl
   have ih:=su (e:=e) (i:=i) (before:=before) k oM;rw[e1];by_cases h1:gF i before (e.letters.getD k default)=true
   · rw[if_pos h1];rcases ih with h2|⟨j,h2,h3,h4⟩
     · exact .inl h2
     · exact .inr ⟨j,h2,oM,h4⟩
   · rw[if_neg h1];have h1':gF i before (e.letters.getD k default)=false:=by simpa using h1
     by_cases h2:da e i before k<0
     · rw[if_pos h2];exact .inr ⟨k,rfl,oM,h1'⟩
     · rw[if_neg h2];by_cases h3:max ((e.letters.getD k default).pos - i) (i - (e.letters.getD k default).pos)<max ((e.letters.getD (da e i before k).toNat default).pos - i) (i - (e.letters.getD (da e i before k).toNat default).pos)
       · rw[if_pos h3];exact .inr ⟨k,rfl,oM,h1'⟩
       · rw[if_neg h3];rcases ih with h3|⟨j,h3,h4,h5⟩
         · exact .inl h3
         · exact .inr ⟨j,h3,oM,h5⟩
theorem vF {e:Ed.ah}:∀(n:Nat) (k:Int),k<(e.bars.length:Int)→goDown e n k = -1∨(0≤goDown e n k∧goDown e n k<(e.bars.length:Int)∧fh e (goDown e n k)=true∧goDown e n k≤k∧k - goDown e n k<n)
 |0,_,_=>.inl rfl
 | n + 1, k, h => by
   have e1:goDown e (n+1) k=if k<0 then -1 else if fh e k then k else goDown e n (k - 1):=rfl
   rw[e1];by_cases h1:k<0
   · rw[if_pos h1];exact .inl rfl
   · rw[if_neg h1];by_cases h2:fh e k=true
     · rw[if_pos h2];exact .inr ⟨oM,h,h2,oM,oM⟩
     · rw[if_neg h2];rcases vF (e:=e) n (k - 1) oM with h3|h3
       · exact .inl h3
       · exact .inr ⟨h3.1,h3.2.1,h3.2.2.1,oM,oM⟩
theorem AN {e:Ed.ah}:∀(n:Nat) (k:Int),0≤k→goUp e n k = -1∨(0≤goUp e n k∧goUp e n k<(e.bars.length:Int)∧fh e (goUp e n k)=true∧k≤goUp e n k∧goUp e n k - k<n)
 |0,_,_=>.inl rfl
 | n + 1, k, h => by
   have e1:goUp e (n+1) k=if (e.bars.length:Int)≤k then -1 else if fh e k then k else goUp e n (k+1):=rfl
   rw[e1];by_cases h1:(e.bars.length:Int)≤k
   · rw[if_pos h1];exact .inl rfl
   · rw[if_neg h1];by_cases h2:fh e k=true
     · rw[if_pos h2];exact .inr ⟨oM,oM,h2,oM,oM⟩
     · rw[if_neg h2];rcases AN (e:=e) n (k+1) oM with h3|h3
       · exact .inl h3
       · exact .inr ⟨h3.1,h3.2.1,h3.2.2.1,oM,oM⟩
structure yu (e:Ed.ah) (i:Int) (x:Nm):Prop where
 at_:0≤x.pos∧x.pos<(e.bars.length:Int)
 far:i - x.pos≤1000∧x.pos - i≤1000
 nm:(∃j:Nat,j<e.letters.length∧x.letter=(e.letters.getD j default).name∧x.pos=(e.letters.getD j default).pos∧x.number=0)∨(x.letter=⟨#[]⟩∧x.number=(e.bars.getD x.pos.toNat default).number∧fh e x.pos=true)
theorem oT {e:Ed.ah} (h:Ed.bE e=true) {j:Nat} (hj:j<e.letters.length):Ed.kF e j=true:=by
 unfold Ed.bE at h;simp only[zA0,zA4] at h;exact h.2 j (zAs.2 hj)
end Go.Proofs.YthiaimakjmhegaaGreatDoor.Pl
namespace Go.Proofs.YthiaimakjmhegaaGreatDoor.Pl
open Go.Ab Go.Pl
attribute [local irreducible] AWP AOps EStep AQ PStep PRun PCall TCall VCall
theorem sw:∃ms,Tryz.prog.underlying 142=some (.interface ms):=⟨_,Tryz.underlying142⟩
theorem tB (x:Int):nJ (db x)=some (decide (x≠0)):=by
 unfold db;by_cases h:x=0
 · subst h;rfl
 · rw[if_neg h,decide_eq_true h];rfl
structure Chk where
 k:FuncId
 aQ:List (List AV)
 res:Int
instance:Inhabited Chk:=⟨⟨0,[],0⟩⟩
def Ey (c:Chk):List AV:=[.fn (.func c.k) [] (c.aQ.map AV.iptr)]
def cM:List Chk→Int
 |[]=>0
 |c::l=>if c.res=0 then cM l else c.res
theorem mX (l:List Chk):∀k,(∀j,j<k→(l.getD j default).res=0)→cM l=cM (l.drop k)
 |0,_=>rfl
 | k + 1, h => by
   rw[mX l k fun j hj=>h j oM];rcases nLg k l.length with hk|hk
   · rw[fq hk];show(if _ then _ else _)=_;rw[if_pos (h k oM)]
   · rw[zBh hk,zBh oM]
theorem tC (l:List Chk) (hl:l.length≤1000000000) (hf:∀k,k<l.length→(∀j,j<k→(l.getD j default).res=0)→PCall Tryz.prog (l.getD k default).k ((l.getD k default).aQ.map AV.iptr) (.prim (db (l.getD k default).res))) :
 PCall Tryz.prog 54 [.sl 1 (l.map Ey) .no] (.prim (db (cM l))):=by
 refine PCall.body Tryz.func54 rfl rfl Tryz.ntmps54 rfl rfl ?_
 repeat' (first|refine qT ?_|apply sqW|refine rgK fun U V=>?_|(refine aN V ?_;clear V U)|refine blK ?_)
 refine lpD (ι:=Nat) (fun k=>[(6,.sl 1 (l.map Ey) .no),(7,.int l.length),(8,.int k)]) (fun _=>[]) (fun k=>k≤l.length∧∀j,j<k→(l.getD j default).res=0) (fun k=>l.length - k) 0 (fun _=>rfl) 0 ⟨nZl _,fun j h=>absurd h oM⟩ ⟨rfl,rfl,rfl,tI⟩ rfl (fun _ _=>rfl) (fun _ _=>rfl) ?_;rintro k ⟨hk,au⟩;by_cases hlt:k<l.length
 · have hc0:=hf k hlt au;have hv:VCall Tryz.prog (.fn (.func (l.getD k default).k) [] ((l.getD k default).aQ.map AV.iptr)) [] ([]:ae) (fun rv s=>rv=.prim (db (l.getD k default).res)∧s=[]):=by
    have h2:=PCall.lf (σ:=[]) hc0 fun v hv=>by
     obtain⟨cs,_,rfl⟩:=zAq.1 hv;rfl
    exact TCall.val (first:=[]) (avs:=[]) h2
   have hne:=tB (l.getD k default).res;generalize hx:db (l.getD k default).res=ev at *
   repeat' (first|refine qP ?_ (h:=fun hg=>by first|exact aa|exact PRun.kA (hv) rfl rfl nd rfl rfl nds|exact PRun.im sw rfl rfl nd hne|exact af)|apply sqW|refine rgK fun U V=>?_|(refine aN V ?_;clear V U)|refine cX ?_ ?_<;>intro hc<;>try simp only[dE] at hc|refine blK ?_|refine exW ?_|refine skW ?_|refine rtW ?_)
   all_goals first|(exfalso;omega)|skip
   · subst hx;refine⟨.inr rfl,Ent.of ?_⟩;rw[mX l k au,fq hlt];show _=AV.prim (db (if _ then _ else _));rw[if_neg (by simpa using hc)];rfl
   · exact⟨k+1,⟨oM,fun j hj=>aH au (by simpa using hc) hj⟩,oM,⟨rfl,rfl,rfl,tI⟩,rfl⟩
 · repeat' (first|refine qT ?_|apply sqW|refine rgK fun U V=>?_|(refine aN V ?_;clear V U)|refine cX ?_ ?_<;>intro hc<;>try simp only[dE] at hc|refine blK ?_|refine exW ?_|refine skW ?_|refine rtW ?_)
   all_goals first|(exfalso;omega)|skip
   refine⟨.inr rfl,Ent.of ?_⟩;rw[mX l k au,zBh oM];rfl
def bt (r:Room):List AV:=[.int r.version,.int r.form.bars,.sl 3 (r.form.ar.map ba) .no,.sl 3 (r.form.ends.map ck) .no,.int r.form.jump.at_,.int r.form.jump.to,.int r.form.jump.ch,.sl 3 (r.form.cuts.map aM) .no,.sl 1 (r.aZ.map fun n=>[AV.int n]) .no]
theorem yw (e:Ed.ah) (hw:Ed.Wf e):PCall Tryz.prog 118 [.agg (Ed.aF e)] (.b (Ed.bE e)):=by
 have hp:=Ed.oF e hw 1 1;unfold Ed.wE at hp;have he:((Ed.plR e 1 1).err==0)=Ed.bE e:=by
  unfold Ed.plR;cases Ed.bE e
  · rfl
  · rw[if_pos dCd];split<;>rfl
 refine PCall.body Tryz.func118 rfl rfl Tryz.ntmps118 rfl rfl ?_
 repeat' (first|refine qP ?_ (h:=fun hg=>by first|exact aa|exact pc hp|exact pbD ab rfl rfl nds|exact af)|apply sqW|refine rgK fun U V=>?_|(refine aN V ?_;clear V U)|refine aB ?_|refine rtW ?_)
 exact⟨.inr rfl,Ent.b he⟩
theorem lA (s:Score) (hs:s.Small) (e:Ed.ah) (hw:Ed.Wf e) (r:Room) (hf:FIn r.form):PCall Tryz.prog 56 [.agg (bg s),.agg (Ed.aF e),.agg (bt r)] (.prim (db (if bW s e r then 0 else 1))):=by
 have h1:=dz s hs;have h2:=yw e hw;have h3:=gD r.form hf;have h4:=gu (bW s e r) 1 dCd;refine PCall.body Tryz.func56 rfl rfl Tryz.ntmps56 rfl rfl ?_
 repeat' (first|refine qP ?_ (h:=fun hg=>by first|exact aa|exact pc h1|exact pc h2|exact pc h3|exact pc h4|exact af)|apply sqW|refine rgK fun U V=>?_|(refine aN V ?_;clear V U)|refine aB ?_|refine rtW ?_)
 exact⟨.inr rfl,fun _ _ h=>h⟩
theorem Ez (s:Score) (m:Mom) (i:Nat) (hi:i<s.bars.length) (hl:s.bars.length≤1000000000):PCall Tryz.prog 120 ([bA m,bg s,[.int i]].map AV.iptr) (.prim (db (if under m.pos (s.bars.getD i default).len then 0 else 3))):=by
 have hc:=ij m.pos (s.bars.getD i default).len;have h4:=gu (under m.pos (s.bars.getD i default).len) 3 dCd;generalize hb:s.bars.getD i default=b at *;refine PCall.body Tryz.func120 rfl rfl Tryz.ntmps120 rfl rfl ?_
 repeat' (first|refine qP ?_ (h:=fun hg=>by first|exact aa|exact pc h4|exact af)|apply sqW|refine rgK fun U V=>?_|(refine aN V ?_;clear V U)|refine rtW ?_|refine kD fun U V=>?_|(refine aqN (V _ ?_);clear V U)|refine aqQ rfl rfl (fun hg=>by first|exact iX cS s.bars ((i:Nat):Int) hb (hb:=oM)|exact aa|exact pc hc|exact af) (by exact rfl) ?_)
 exact⟨.inr rfl,fun _ _ h=>h⟩
theorem EA (f:aG) (hf:FIn f) (v:cB) (hok:aW f=true):PCall Tryz.prog 122 ([aP f,bC v].map AV.iptr) (.prim (db (if v∈bM f then 0 else 30))):=by
 have hc:=find_spec f hf v;have h4:=gu (decide (v∈bM f)) 30 dCd;rw[show jS f v=(max (az (gW v) (bM f)) 0,decide (v∈bM f),0) by unfold jS;rw[if_pos hok]] at hc;refine PCall.body Tryz.func122 rfl rfl Tryz.ntmps122 rfl rfl ?_
 repeat' (first|refine qP ?_ (h:=fun hg=>by first|exact aa|exact pc hc|exact pc h4|exact af)|apply sqW|refine rgK fun U V=>?_|(refine aN V ?_;clear V U)|refine rtW ?_)
 refine⟨.inr rfl,Ent.of ?_⟩;simp only[dEt];rfl
theorem EB (r:Room) (hf:FIn r.form) (v:cB) (hok:aW r.form=true):PCall Tryz.prog 124 ([bt r,bC v].map AV.iptr) (.prim (db (if v∈bM r.form then 0 else 31))):=by
 have hc:=find_spec r.form hf v;have h4:=gu (decide (v∈bM r.form)) 31 dCd;rw[show jS r.form v=(max (az (gW v) (bM r.form)) 0,decide (v∈bM r.form),0) by unfold jS;rw[if_pos hok]] at hc;refine PCall.body Tryz.func124 rfl rfl Tryz.ntmps124 rfl rfl ?_
 repeat' (first|refine qP ?_ (h:=fun hg=>by first|exact aa|exact pc hc|exact pc h4|exact af)|apply sqW|refine rgK fun U V=>?_|(refine aN V ?_;clear V U)|refine rtW ?_)
 refine⟨.inr rfl,Ent.of ?_⟩;simp only[dEt];rfl
theorem GI {f:aG}:∀(i:Nat) u v,([.int f.bars,.sl 3 (f.ar.map ba) .no,.sl 3 (f.ends.map ck) .no,.int f.jump.at_,.int f.jump.to,.int f.jump.ch,.nils]:List AV)[i]? = some u→(aP { f with cuts:=[] })[i]? = some v→∀M B x,ag M B u x→ag M B v x:=by
 intro i u v hu hv M B x hx
 match i,hu,hv with
 |0,hu,hv=>cases hu;cases hv;exact hx
 |1,hu,hv=>cases hu;cases hv;exact hx
 |2,hu,hv=>cases hu;cases hv;exact hx
 |3,hu,hv=>cases hu;cases hv;exact hx
 |4,hu,hv=>cases hu;cases hv;exact hx
 |5,hu,hv=>cases hu;cases hv;exact hx
 | 6, hu, hv =>
   cases hu;cases hv;cases hx;exact .slz 3 .no trivial
 |k+7,hu,hv=>cases hu
theorem Cb {f:aG} (h:aW f=true):aW { f with cuts:=[] }=true:=by
 unfold aW at h ⊢;rw[lr];simp only[zA0,dEt] at h ⊢;obtain⟨⟨⟨⟨⟨⟨h1,h2⟩,h3⟩,h4⟩,h5⟩,_⟩,h8⟩:=h;exact⟨⟨⟨⟨⟨⟨h1,h2⟩,h3⟩,h4⟩,h5⟩,rfl,by decide⟩,h8⟩
theorem yx (f:aG):bM { f with cuts:=[] }=cj (aK f):=by
 unfold bM;rw[lr];refine List.filter_eq_self.2 fun v _=>rfl
theorem EC {s:Score} (h:bG s=true) {id:Int} (hb:0≤cw s.bars id):inB id 1 1000000=true∧cw s.bars id<s.bars.length:=by
 obtain⟨k,h1,h2,h3,_⟩:=bY (p:=fun b:Bar=>b.id==id) (l:=s.bars) hb;refine⟨?_,by unfold cw;omega⟩;have dv:dQ s.bars=true:=by
  unfold bG kb at h;simp only[zA0,zB3,zAg,zBc] at h;exact h.1.1.1.1.2
 unfold dQ at dv;simp only[zA0,zA4] at dv;have hk:=dv.1.1.1 _ (bD h2);unfold gx xu at hk;have e:(s.bars.getD k default).id=id:=by simpa using h3
 simp only[zA0,zB3,zAg,dEf] at hk;obtain⟨⟨⟨⟨a,b⟩,_⟩,_⟩,_⟩:=hk;rw[e] at a b;unfold inB;simp only[zA0,dEt];omega
theorem Jc {s:Score} (h:bG s=true) (id:Int):(r7 s id).2.1=decide (0≤cw s.bars id)∧(0≤cw s.bars id→(r7 s id).1=cw s.bars id):=by
 unfold r7 s7;rw[h,zAy];by_cases hb:0≤cw s.bars id
 · have hin:=(EC h hb).1;rw[hin];unfold idR;rw[if_pos rfl];unfold kY;refine⟨rfl,fun _=>?_⟩;show max (cw s.bars id) 0=_;omega
 · refine⟨?_,fun h2=>absurd h2 hb⟩;rw[decide_eq_false hb];unfold idR;split
   · exact decide_eq_false hb
   · rfl
theorem vG {s:Score} {r:Room} {m:Mom} (h:cw s.bars m.bar<0):reason s r m=32:=by
 unfold reason;rw[if_pos h]
theorem ED {s:Score} {r:Room} {m:Mom} {i:Nat} (h:cw s.bars m.bar=i) :
 cM [⟨120,[bA m,bg s,[.int i]],if under m.pos (s.bars.getD i default).len then 0 else 3⟩,⟨122,[aP { r.form with cuts:=[] },bC ⟨i,m.pass⟩],if (⟨i,m.pass⟩:cB)∈bM { r.form with cuts:=[] } then 0 else 30⟩,⟨124,[bt r,bC ⟨i,m.pass⟩],if (⟨i,m.pass⟩:cB)∈bM r.form then 0 else 31⟩]=reason s r m:=by
 have h0:¬((i:Nat):Int)<0:=oM;have hsub:(⟨i,m.pass⟩:cB)∈bM r.form→(⟨i,m.pass⟩:cB)∈cj (aK r.form):=fun hm=>by unfold bM at hm;exact(zD7.1 hm).1
 unfold reason;rw[h,zAe,yx,if_neg h0];cases hu:under m.pos (s.bars.getD i default).len
 · simp[cM]
 · by_cases h1:(⟨i,m.pass⟩:cB)∈bM r.form
   · have h2:=hsub h1;simp[cM,force,qj,h1,h2]
   · by_cases h2:(⟨i,m.pass⟩:cB)∈cj (aK r.form)
     · simp[cM,force,qj,h1,h2]
     · simp[cM,force,qj,h1,h2]
theorem qk (s:Score) (hs:s.Small) (hok:bG s=true) (r:Room) (hf:FIn r.form) (bL:aW r.form=true) (m:Mom):PCall Tryz.prog 60 [.agg (bg s),.agg (bt r),.agg (bA m)] (.prim (db (reason s r m))):=by
 have dv:=DP s hs m.bar;obtain⟨e1,e2⟩:=Jc hok m.bar;unfold at3 at dv;rw[e1] at dv;by_cases hb:0≤cw s.bars m.bar
 · obtain⟨i,hi⟩:∃i:Nat,cw s.bars m.bar=i:=⟨(cw s.bars m.bar).toNat,oM⟩
   have hil:=(EC hok hb).2;rw[hi] at hil;rw[e2 hb,decide_eq_true hb,hi] at dv;have hfw:FIn { r.form with cuts:=[] }:=⟨hf.ar,hf.ends,nZl _⟩;have h1:=Ez s m i oM hs.1;have h2:=EA { r.form with cuts:=[] } hfw ⟨i,m.pass⟩ (Cb bL);have h3:=EB r hf ⟨i,m.pass⟩ bL;have hr:=ED (r:=r) hi;rw[←hr];clear hr e1 e2 hb;have jQ:=tC [⟨120,[bA m,bg s,[.int i]],if under m.pos (s.bars.getD i default).len then 0 else 3⟩,⟨122,[aP { r.form with cuts:=[] },bC ⟨i,m.pass⟩],if (⟨i,m.pass⟩:cB)∈bM { r.form with cuts:=[] } then 0 else 30⟩,⟨124,[bt r,bC ⟨i,m.pass⟩],if (⟨i,m.pass⟩:cB)∈bM r.form then 0 else 31⟩] (by show 3≤1000000000;decide) (fun k hk _=>by
    match k,hk with
    |0,_=>exact h1
    |1,_=>exact h2
    |2,_=>exact h3)
   clear h1 h2 h3;refine PCall.body Tryz.func60 rfl rfl Tryz.ntmps60 rfl rfl ?_
   repeat refine sqW ?_
   refine rgK fun U V=>?_
   repeat' (first|refine qS ?_|refine aB ?_)
   refine aoN (V _ _ ?_);clear V U
   repeat refine sqW ?_
   refine rgK fun U V=>?_
   repeat' (first|refine qP ?_ (h:=fun hg=>by first|exact aa|exact pc dv|exact af)|refine aS ?_|refine aA ?_)
   refine aoN (V _ _ ?_);clear V U
   repeat refine sqW ?_
   refine rgK fun U V=>?_
   repeat' (first|refine qS ?_)
   refine aoN (V _ _ ?_);clear V U;refine cdW rfl tI (fun hc=>?_) (fun hc=>?_)
   · exfalso;simp at hc
   refine skW ?_
   repeat refine sqW ?_
   refine rgK fun U V=>?_
   repeat' (first|refine qP ?_ (h:=fun hg=>by first|exact aa|exact pbD ab rfl rfl nds|exact af)|refine aS ?_|refine aA ?_)
   refine aoN (V _ _ ?_);clear V U
   repeat refine sqW ?_
   refine rgK fun U V=>?_
   repeat' (first|refine qS ?_|refine aS ?_|refine aA ?_)
   refine aoN (V _ _ ?_);clear V U
   repeat refine sqW ?_
   refine rgK fun U V=>?_
   repeat' (first|refine qS ?_|refine aS ?_)
   refine aoN (V _ _ ?_);clear V U;refine AWP.cY [(3,.ptr 0 0),(4,.ptr 1 0),(5,.ptr 2 0),(7,.ptr 3 0),(10,.ptr 4 0),(11,.ptr 5 0)] ⟨rfl,rfl,rfl,rfl,rfl,rfl,tI⟩ ?_;refine AWP.ux 5 (cs':=aP { r.form with cuts:=[] }) rfl rfl GI ?_;refine AWP.bj 0 rfl rfl ?_;refine AWP.bj 1 rfl rfl ?_;refine AWP.bj 2 rfl rfl ?_;refine AWP.bj 3 rfl rfl ?_;refine AWP.bj 4 rfl rfl ?_;refine AWP.bj 5 rfl rfl ?_;refine AWP.cY [(3,.iptr (bg s)),(4,.iptr (bt r)),(5,.iptr (bA m)),(7,.iptr [.int i]),(10,.iptr (bC ⟨i,m.pass⟩)),(11,.iptr (aP { r.form with cuts:=[] }))] ⟨rfl,rfl,rfl,rfl,rfl,rfl,tI⟩ ?_
   repeat' (first|refine qP ?_ (h:=fun hg=>by first|exact aa|exact pbS ab rfl rfl nds|exact pc jQ|exact af)|apply sqW|refine rgK fun U V=>?_|(refine aN V ?_;clear V U)|refine rtW ?_)
   exact⟨.inr rfl,fun _ _ h=>h⟩
 · rw[vG oM];rw[decide_eq_false hb] at dv;refine PCall.body Tryz.func60 rfl rfl Tryz.ntmps60 rfl rfl ?_
   repeat' (first|refine qP ?_ (h:=fun hg=>by first|exact aa|exact pc dv|exact pbD ab rfl rfl nds|exact PRun.DY [.int .i64 32] (by kernel_rfl) rfl rfl nd|exact af)|apply sqW|refine rgK fun U V=>?_|(refine aN V ?_;clear V U)|refine aB ?_|refine aS ?_|refine aA ?_|refine cX ?_ ?_<;>intro hc<;>try simp only[dE] at hc|refine skW ?_|refine rtW ?_)
   · exact⟨.inr rfl,Ent.of rfl⟩
   · exfalso;simp at hc
theorem yy (a b c:Int):PCall Tryz.prog 36 [.int a,.int b,.int c] (.b (inB a b c)):=by
 refine PCall.body Tryz.func36 rfl rfl Tryz.ntmps36 rfl rfl ?_
 repeat' (first|refine qS ?_|apply sqW|refine rgK fun U V=>?_|(refine aN V ?_;clear V U)|refine rtW ?_)
 exact⟨.inr rfl,fun _ _ h=>h⟩
theorem zT (c:Int):PCall Tryz.prog 87 [.prim (.int .i32 c)] (.b (Ed.dR c)):=by
 refine PCall.body Tryz.func87 rfl rfl Tryz.ntmps87 rfl rfl ?_
 repeat' (first|refine qS ?_|apply sqW|refine rgK fun U V=>?_|(refine aN V ?_;clear V U)|refine rtW ?_)
 exact⟨.inr rfl,fun _ _ h=>h⟩
theorem rk (c:Nat):bF Tryz.prog (.fn (.func 87) [] []) [.prim (.int .i32 c)] (.b (Ed.dR c)):=⟨87,[],[],rfl,zT c⟩
theorem Cc {s:ByteArray} (h:s.size=0):s=⟨#[]⟩:=by
 obtain⟨d⟩:=s;have:d.size=0:=h;rw[zC1 this]
theorem tD (s:ByteArray):(s.toList==ByteArray.toList ⟨#[]⟩)=(s.size==0):=by
 rw[zAi,Lib.bytes_beq_iff,beq_iff_eq];exact⟨fun h=>by rw[h];rfl,Cc⟩
theorem yz (s:ByteArray) (hs:s.size≤9223372036854775807):PCall Tryz.prog 37 [.str s] (.b (Ed.eB s)):=by
 by_cases h0:0<s.size
 · refine PCall.body Tryz.func37 rfl rfl Tryz.ntmps37 rfl rfl ?_
   repeat' (first|refine qP ?_ (h:=fun hg=>by first|exact aa|exact pcW (Ed.kG s (.fn (.func 87) [] []) Ed.dR rk Ed.lx hs) rfl rfl nd rfl nds|exact af)|apply sqW|refine rgK fun U V=>?_|(refine aN V ?_;clear V U)|refine rtW ?_)
   refine⟨.inr rfl,?_⟩;rw[←Ed.vt s h0];exact fun _ _ h=>h
 · have e:s=⟨#[]⟩:=Cc oM;subst e;refine PCall.body Tryz.func37 rfl rfl Tryz.ntmps37 rfl rfl ?_
   repeat' (first|refine qP ?_ (h:=fun hg=>by first|exact aa|exact pcW (Ed.kG _ (.fn (.func 87) [] []) Ed.dR rk Ed.lx hs) rfl rfl nd rfl nds|exact af)|apply sqW|refine rgK fun U V=>?_|(refine aN V ?_;clear V U)|refine rtW ?_)
   refine⟨.inr rfl,?_⟩;show Ent (AV.b ((!ByteArray.toList ⟨#[]⟩==ByteArray.toList ⟨#[]⟩)&&_&&_&&_)) _;rw[show(!ByteArray.toList ⟨#[]⟩==ByteArray.toList ⟨#[]⟩)=false by simp,zBu,zBu,zBu,show Ed.eB ⟨#[]⟩=false by decide];exact fun _ _ h=>h
theorem rl (c:Call) (hs:c.letter.size≤9223372036854775807):PCall Tryz.prog 14 [.agg (bw c)] (.b (cU c)):=by
 have v:=fN c.gE;have n:=yz c.letter hs;have w:=yy;by_cases hb:dj c.gE=true
 · obtain⟨h1,h2,h3,h4,_⟩:=cL.1 hb;rw[hb] at v;refine PCall.body Tryz.func14 rfl rfl Tryz.ntmps14 rfl rfl ?_
   repeat' (first|refine qP ?_ (h:=fun hg=>by first|exact aa|exact pc v|exact pc n|exact pc (w _ _ _)|exact af)|apply sqW|refine rgK fun U V=>?_|(refine aN V ?_;clear V U)|refine aB ?_|refine rtW ?_)
   refine⟨.inr rfl,Ent.b ?_⟩;unfold cU kl dp;rw[hb,tD]
 · have hb:dj c.gE=false:=by simpa using hb
   rw[hb] at v;refine PCall.body Tryz.func14 rfl rfl Tryz.ntmps14 rfl rfl ?_
   repeat' (first|refine qP ?_ (h:=fun hg=>by first|exact aa|exact pc v|exact pc n|exact pc (w _ _ _)|exact af)|apply sqW|refine rgK fun U V=>?_|(refine aN V ?_;clear V U)|refine aB ?_|refine rtW ?_)
   refine⟨.inr rfl,Ent.b ?_⟩;unfold cU kl dp;rw[hb,tD]
theorem yA (x:Int):PCall Tryz.prog 58 [.b (x==0),.int x] (.prim (db x)):=by
 by_cases h:x=0
 · subst h;refine PCall.body Tryz.func58 rfl rfl Tryz.ntmps58 rfl rfl ?_
   repeat' (first|refine qS ?_|apply sqW|refine rgK fun U V=>?_|(refine aN V ?_;clear V U)|refine cX ?_ ?_<;>intro hc<;>try simp only[dE] at hc|refine skW ?_|refine rtW ?_)
   · exact⟨.inr rfl,Ent.of rfl⟩
   · exact absurd hc dCd
 · have:=gu (x==0) x h;rw[show(x==0)=false by simpa using h] at this ⊢;exact this
structure l5 where
 k:FuncId
 aQ:List AV
 res:Int
instance:Inhabited l5:=⟨⟨0,[],0⟩⟩
def qJ (c:l5):List AV:=[.fn (.func c.k) [] c.aQ]
def dr:List l5→Int
 |[]=>0
 |c::l=>if c.res=0 then dr l else c.res
theorem mY (l:List l5):∀k,(∀j,j<k→(l.getD j default).res=0)→dr l=dr (l.drop k)
 |0,_=>rfl
 | k + 1, h => by
   rw[mY l k fun j hj=>h j oM];rcases nLg k l.length with hk|hk
   · rw[fq hk];show(if _ then _ else _)=_;rw[if_pos (h k oM)]
   · rw[zBh hk,zBh oM]
abbrev rSt (l:List l5) (mo:List AV) (i:Int):ae:=[.dead,.dead,.dead,.dead,.var [.int 0,.int 0,.int 0,.int 0],.var mo,.var [.int i],.arr 1 0 (l.map qJ)]
theorem Jd (l:List l5) (hl:l.length≤1000000000) (M:Nat→List AV) (I:Nat→Int) (hok:∀k,(rSt l (M k) (I k)).all (aD 8)=true)
 (hf:∀k,k<l.length→(∀j,j<k→(l.getD j default).res=0)→TCall Tryz.prog (l.getD k default).k (l.getD k default).aQ (rSt l (M k) (I k)) (fun r s=>r=.prim (db (l.getD k default).res)∧s=rSt l (M (k+1)) (I (k+1)))) :
 TCall Tryz.prog 54 [.sla 7 1 0 l.length 0] (rSt l (M 0) (I 0)) (fun r s=>r=.prim (db (dr l))∧(dr l=0→s=rSt l (M l.length) (I l.length))∧∃k,s=rSt l (M k) (I k)):=by
 refine TCall.body Tryz.func54 rfl rfl Tryz.ntmps54 rfl rfl ?_
 repeat' (first|refine qP ?_ (h:=fun hg=>by first|exact aa|exact PRun.j8 ab rfl rfl nd rfl|exact af)|apply sqW|refine rgK fun U V=>?_|(refine aN V ?_;clear V U)|refine blK ?_)
 refine lpD (ι:=Nat) (fun k=>[(6,.sla 7 1 0 l.length 0),(7,.int l.length),(8,.int k)]) (fun k=>rSt l (M k) (I k)) (fun k=>k≤l.length∧∀j,j<k→(l.getD j default).res=0) (fun k=>l.length - k) 8 (fun _=>rfl) 0 ⟨nZl _,fun j h=>absurd h oM⟩ ⟨rfl,rfl,rfl,tI⟩ rfl (fun _ _=>rfl) (fun k _=>hok k) ?_;rintro k ⟨hk,au⟩;by_cases hlt:k<l.length
 · have hv:=TCall.val (first:=[]) (avs:=[]) (hf k hlt au);have hne:=tB (l.getD k default).res;generalize hx:db (l.getD k default).res=ev at *
   repeat' (first|refine qP ?_ (h:=fun hg=>by first|exact aa|exact PRun.qy ab rfl rfl nd rfl nd rfl dCd rfl ⟨oM,oM⟩|exact PRun.J5 (f:=qJ) (xs:=l) ab rfl rfl nd rfl oM rfl rfl|exact af)|apply sqW|refine rgK fun U V=>?_|(refine aN V ?_;clear V U)|refine aoE (scT (hv) rfl rfl rfl rfl rfl nd rfl rfl nds ?_)|refine cX ?_ ?_<;>intro hc<;>try simp only[dE] at hc|refine blK ?_|refine exW ?_|refine skW ?_|refine rtW ?_)
   all_goals first|(exfalso;omega)|skip
   rintro _ _ ⟨rfl,rfl⟩
   repeat' (first|refine qP ?_ (h:=fun hg=>by first|exact aa|exact PRun.im sw rfl rfl nd hne|exact af)|apply sqW|refine rgK fun U V=>?_|(refine aN V ?_;clear V U)|refine cX ?_ ?_<;>intro hc<;>try simp only[dE] at hc|refine skW ?_|refine rtW ?_)
   · subst hx;have hr:(l.getD k default).res≠0:=by simpa using hc
     have e1:dr l=(l.getD k default).res:=by
      rw[mY l k au,fq hlt];show(if _ then _ else _)=_;rw[if_neg hr]
     exact⟨.inr rfl,_,_,⟨by rw[e1],fun h=>absurd (e1.symm.trans h) hr,k+1,rfl⟩,rfl,nLr _,hok _,rfl,rfl⟩
   · exact⟨k+1,⟨oM,fun j hj=>aH au (by simpa using hc) hj⟩,oM,⟨rfl,rfl,rfl,tI⟩,rfl⟩
 · repeat' (first|refine qS ?_|apply sqW|refine rgK fun U V=>?_|(refine aN V ?_;clear V U)|refine cX ?_ ?_<;>intro hc<;>try simp only[dE] at hc|refine blK ?_|refine exW ?_|refine skW ?_|refine rtW ?_)
   all_goals first|(exfalso;omega)|skip
   have e1:dr l=0:=by rw[mY l k au,zBh oM];rfl
   have e2:k=l.length:=oM;subst e2;exact⟨.inr rfl,_,_,⟨by rw[e1];rfl,fun _=>rfl,_,rfl⟩,rfl,nLr _,hok _,rfl,rfl⟩
theorem GJ (s:Score) (hs:s.Small) (e:Ed.ah) (hw:Ed.Wf e) (r:Room) (hf:FIn r.form):PCall Tryz.prog 75 [.iptr (bg s),.iptr (Ed.aF e),.iptr (bt r)] (.prim (db (if bW s e r then 0 else 1))):=by
 have h1:=lA s hs e hw r hf;refine PCall.body Tryz.func75 rfl rfl Tryz.ntmps75 rfl rfl ?_
 repeat' (first|refine qP ?_ (h:=fun hg=>by first|exact aa|exact pc h1|exact af)|apply sqW|refine rgK fun U V=>?_|(refine aN V ?_;clear V U)|refine rtW ?_)
 exact⟨.inr rfl,fun _ _ h=>h⟩
theorem GK (c:Call) (hs:c.letter.size≤9223372036854775807):PCall Tryz.prog 76 [.iptr (bw c)] (.prim (db (if cU c then 0 else 1))):=by
 have h1:=rl c hs;have h4:=gu (cU c) 1 dCd;refine PCall.body Tryz.func76 rfl rfl Tryz.ntmps76 rfl rfl ?_
 repeat' (first|refine qP ?_ (h:=fun hg=>by first|exact aa|exact pc h1|exact pc h4|exact af)|apply sqW|refine rgK fun U V=>?_|(refine aN V ?_;clear V U)|refine rtW ?_)
 exact⟨.inr rfl,fun _ _ h=>h⟩
theorem l6 {e:Ed.ah} (hf:Ed.bE e=true):e.bars.length≤4000:=by
 unfold Ed.bE Ed.iS inB at hf;simp only[zA0,dEt] at hf;omega
theorem Je {e:Ed.ah} (hf:Ed.bE e=true) (nm:ByteArray):0≤(Ed.gR e nm).1∧(Ed.gR e nm).1≤4000:=by
 have hlen:=l6 hf;by_cases hn:Ed.eB nm=true
 · rw[Ed.AH hf hn];split
   · exact⟨zBy _,by decide⟩
   · rename_i h2;obtain⟨k,h1,h2,_,_⟩:=bY (p:=fun x:Ed.Letter=>x.name.toList==nm.toList) (l:=e.letters) (by show 0≤Ed.fm e.letters nm;omega);have e1:Ed.fm e.letters nm=k:=h1;rw[e1,zAe];have:=oT hf h2;unfold Ed.kF inB at this;simp only[zA0,dEt] at this;show 0≤(e.letters.getD k default).pos∧(e.letters.getD k default).pos≤4000;omega
 · unfold Ed.gR;rw[if_neg (by simp[hn])];exact⟨zBy _,by decide⟩
theorem Jf {e:Ed.ah} (hf:Ed.bE e=true) (n:Int):0≤(Ed.gQ e n).1∧(Ed.gQ e n).1≤4000:=by
 have hlen:=l6 hf;unfold Ed.gQ;have hub:=Ed.oE (Ed.il n) e.bars;split
 · split
   · exact⟨zBy _,by decide⟩
   · split
     · exact⟨zBy _,by decide⟩
     · rename_i h1 _;show 0≤Ed.mT e n∧Ed.mT e n≤4000;have:Ed.mT e n<e.bars.length:=hub.2;omega
 · exact⟨zBy _,by decide⟩
theorem LL (l:List l5) (e:Ed.ah) (hw:Ed.Wf e) (hfm:Ed.bE e=true) (c:Call) (hs:c.letter.size≤9223372036854775807) (hcb:-1000≤c.bars∧c.bars≤1000) (mo:List AV) (i0:Int) (hok:∀i,(rSt l mo i).all (aD 8)=true) :
 TCall Tryz.prog 77 [.iptr (bw c),.iptr (Ed.aF e),.ptr 6 0] (rSt l mo i0) (fun r s=>r=.prim (db (named e c).2)∧s=rSt l mo ((named e c).1+c.bars)):=by
 have hl:=Ed.xU e hw c.letter hs;have hn:=Ed.zD e hw c.number;have hin:=Je hfm c.letter;have hin2:=Jf hfm c.number;have h4:=yA (named e c).2;by_cases h0:c.letter.size=0
 · have e1:named e c=Ed.gQ e c.number:=by unfold named;rw[if_neg (by simpa using h0)]
   rw[e1] at h4 ⊢;have hz:c.letter=⟨#[]⟩:=Cc h0;refine TCall.body Tryz.func77 rfl rfl Tryz.ntmps77 rfl rfl ?_
   repeat' (first|refine qP ?_ (h:=fun hg=>by first|exact aa|exact pc hl|exact pc hn|exact pc h4|exact af)|apply sqW|refine rgK fun U V=>?_|(refine aN V ?_;clear V U)|refine aS ?_|refine cX ?_ ?_<;>intro hc<;>try simp only[dE] at hc|refine rtW ?_)
   all_goals first|(exfalso;rw[tD] at hc;simp[h0] at hc;done)|skip
   exact⟨.inr rfl,_,_,⟨rfl,rfl⟩,rfl,nLr _,hok _,rfl,rfl⟩
 · have e1:named e c=Ed.gR e c.letter:=by unfold named;rw[if_pos (by simpa using h0)]
   rw[e1] at h4 ⊢;refine TCall.body Tryz.func77 rfl rfl Tryz.ntmps77 rfl rfl ?_
   repeat' (first|refine qP ?_ (h:=fun hg=>by first|exact aa|exact pc hl|exact pc hn|exact pc h4|exact af)|apply sqW|refine rgK fun U V=>?_|(refine aN V ?_;clear V U)|refine aS ?_|refine cX ?_ ?_<;>intro hc<;>try simp only[dE] at hc|refine rtW ?_)
   all_goals first|(exfalso;rw[tD] at hc;simp[h0] at hc;done)|skip
   exact⟨.inr rfl,_,_,⟨rfl,rfl⟩,rfl,nLr _,hok _,rfl,rfl⟩
theorem LM (l:List l5) (e:Ed.ah) (hw:Ed.Wf e) (mo:List AV) (i:Int) (hok:(rSt l mo i).all (aD 8)=true) :
 TCall Tryz.prog 80 [.ptr 6 0,.iptr (Ed.aF e)] (rSt l mo i) (fun r s=>r=.prim (db (if decide (0≤i)&&decide (i<(e.bars.length:Int)) then 0 else 21))∧s=rSt l mo i):=by
 have hb:=hw.bars;have h4:=gu (decide (0≤i)&&decide (i<(e.bars.length:Int))) 21 dCd;refine TCall.body Tryz.func80 rfl rfl Tryz.ntmps80 rfl rfl ?_
 repeat' (first|refine qP ?_ (h:=fun hg=>by first|exact aa|exact pc h4|exact af)|apply sqW|refine rgK fun U V=>?_|(refine aN V ?_;clear V U)|refine rtW ?_)
 exact⟨.inr rfl,_,_,⟨rfl,rfl⟩,rfl,nLr _,hok,rfl,rfl⟩
theorem LN (l:List l5) (e:Ed.ah) (hw:Ed.Wf e) (c:Call) (m0:Mom) (i:Int) (hok:∀mo:Mom,(rSt l (bA mo) i).all (aD 8)=true) :
 TCall Tryz.prog 81 [.iptr (Ed.aF e),.ptr 6 0,.iptr (bw c),.ptr 5 0] (rSt l (bA m0) i) (fun r s=>r=.prim (db (Ed.viR e i c.pass).err)∧s=rSt l (bA ⟨(Ed.viR e i c.pass).bar,(Ed.viR e i c.pass).pass,c.gE⟩) i):=by
 have hv:=Ed.oG e hw i c.pass;have h4:=yA (Ed.viR e i c.pass).err;unfold Ed.HM at hv;generalize Ed.viR e i c.pass=v at *;refine TCall.body Tryz.func81 rfl rfl Tryz.ntmps81 rfl rfl ?_
 repeat' (first|refine qP ?_ (h:=fun hg=>by first|exact aa|exact pc hv|exact pc h4|exact pbD ab rfl rfl nds|exact af)|apply sqW|refine rgK fun U V=>?_|(refine aN V ?_;clear V U)|refine aS ?_|refine aA ?_|refine rtW ?_)
 exact⟨.inr rfl,_,_,⟨rfl,rfl⟩,rfl,nLr _,hok ⟨v.bar,v.pass,c.gE⟩,rfl,rfl⟩
theorem LO (l:List l5) (s:Score) (hs:s.Small) (hsc:bG s=true) (r:Room) (hf:FIn r.form) (bL:aW r.form=true) (m:Mom) (i:Int) (hok:(rSt l (bA m) i).all (aD 8)=true) :
 TCall Tryz.prog 83 [.iptr (bg s),.iptr (bt r),.ptr 5 0] (rSt l (bA m) i) (fun rv st=>rv=.prim (db (reason s r m))∧st=rSt l (bA m) i):=by
 have h1:=qk s hs hsc r hf bL m;refine TCall.body Tryz.func83 rfl rfl Tryz.ntmps83 rfl rfl ?_
 repeat' (first|refine qP ?_ (h:=fun hg=>by first|exact aa|exact pc h1|exact af)|apply sqW|refine rgK fun U V=>?_|(refine aN V ?_;clear V U)|refine rtW ?_)
 exact⟨.inr rfl,_,_,⟨rfl,rfl⟩,rfl,nLr _,hok,rfl,rfl⟩
def reL (s:Score) (e:Ed.ah) (r:Room) (c:Call):List l5:=[
 ⟨75,[.iptr (bg s),.iptr (Ed.aF e),.iptr (bt r)],if bW s e r then 0 else 1⟩,
 ⟨76,[.iptr (bw c)],if cU c then 0 else 1⟩,
 ⟨77,[.iptr (bw c),.iptr (Ed.aF e),.ptr 6 0],(named e c).2⟩,
 ⟨80,[.ptr 6 0,.iptr (Ed.aF e)],if decide (0≤(named e c).1+c.bars)&&decide ((named e c).1+c.bars<(e.bars.length:Int)) then 0 else 21⟩,
 ⟨81,[.iptr (Ed.aF e),.ptr 6 0,.iptr (bw c),.ptr 5 0],(Ed.viR e ((named e c).1+c.bars) c.pass).err⟩,
 ⟨83,[.iptr (bg s),.iptr (bt r),.ptr 5 0],reason s r ⟨(Ed.viR e ((named e c).1+c.bars) c.pass).bar,(Ed.viR e ((named e c).1+c.bars) c.pass).pass,c.gE⟩⟩]
def reM (e:Ed.ah) (c:Call):Mom:=⟨(Ed.viR e ((named e c).1+c.bars) c.pass).bar,(Ed.viR e ((named e c).1+c.bars) c.pass).pass,c.gE⟩
theorem EE (s:Score) (e:Ed.ah) (r:Room) (c:Call):resolve s e r c=if dr (reL s e r c)=0 then (reM e c,0) else (cJ,dr (reL s e r c)):=by
 unfold resolve reL reM;by_cases h1:bW s e r=true
 · by_cases h2:cU c=true
   · rw[h1,h2,if_neg dCd];by_cases h3:(named e c).2=0
     · by_cases h4:(decide (0≤(named e c).1+c.bars)&&decide ((named e c).1+c.bars<(e.bars.length:Int)))=true
       · by_cases h5:(Ed.viR e ((named e c).1+c.bars) c.pass).err=0
         · simp only[dr,h3,h4,h5];simp;split<;>simp_all
         · simp only[dr,h3,h4];simp[h5]
       · simp only[dr,h3];simp[h4]
     · simp only[dr];simp[h3]
   · simp[dr,h1,h2]
 · simp[dr,h1]
theorem nM (s:Score) (e:Ed.ah) (r:Room) (c:Call) (m:Mom) (i:Int):(rSt (reL s e r c) (bA m) i).all (aD 8)=true:=rfl
theorem yB (s:Score) (hs:s.Small) (e:Ed.ah) (hw:Ed.Wf e) (r:Room) (hf:FIn r.form) (c:Call) (hcl:c.letter.size≤9223372036854775807) :
 PCall Tryz.prog 29 [.agg (bg s),.agg (Ed.aF e),.agg (bt r),.agg (bw c)] (.tup [.agg (bA (resolve s e r c).1),.int (resolve s e r c).2]):=by
 have hfr:=Jd (reL s e r c) (by show 6≤1000000000;decide) (fun k=>if k≤4 then bA cJ else bA (reM e c)) (fun k=>if k≤2 then 0 else (named e c).1+c.bars) (fun k=>by
  split
  · exact nM s e r c cJ _
  · exact nM s e r c (reM e c) _) (fun k hk hz=>by
  have hz1:0<k→bW s e r=true:=fun h=>by
   have:=hz 0 h;cases hh:bW s e r
   · have h2:(if bW s e r then (0:Int) else 1)=0:=this;rw[hh] at h2;cases h2
   · rfl
  have hz2:1<k→cU c=true:=fun h=>by
   have:=hz 1 h;cases hh:cU c
   · have h2:(if cU c then (0:Int) else 1)=0:=this;rw[hh] at h2;cases h2
   · rfl
  match k,hk with
  |0,_=>exact PCall.lf (GJ s hs e hw r hf) (fun v hv=>by
   rcases zAo.1 hv with rfl|hv
   · rfl
   rcases zAo.1 hv with rfl|hv
   · rfl
   rw[zA9.1 hv];rfl)
  |1,_=>exact PCall.lf (GK c hcl) (fun v hv=>by rw[zA9.1 hv];rfl)
  | 2, _ =>
    have h1:=hz1 oM;have h2:=hz2 oM;unfold bW at h1;unfold cU inB at h2;simp only[zA0,dEt] at h1 h2;exact LL (reL s e r c) e hw h1.1.2 c hcl h2.1.2 (bA cJ) 0 (fun i=>nM s e r c cJ i)
  |3,_=>exact LM (reL s e r c) e hw (bA cJ) _ (nM s e r c cJ _)
  |4,_=>exact LN (reL s e r c) e hw c cJ _ (fun mo=>nM s e r c mo _)
  | 5, _ =>
    have h1:=hz1 oM;unfold bW tz at h1;simp only[zA0] at h1;exact LO (reL s e r c) s hs h1.1.1 r hf h1.2.2 (reM e c) _ (nM s e r c (reM e c) _))
 rw[EE];have GM:=TCall.val (first:=[]) (aQ:=[]) (avs:=[.sla 7 1 0 6 0]) hfr;clear hfr;by_cases hx:dr (reL s e r c)=0
 · rw[if_pos hx];rw[hx] at GM;refine PCall.bN ab Tryz.func29 rfl rfl Tryz.ntmps29 rfl ?_
   repeat refine sqW ?_
   refine rgK fun U V=>?_
   repeat' (first|refine qS ?_|refine aB ?_|refine aA ?_)
   refine aoN (V _ _ ?_);clear V U
   repeat refine sqW ?_
   refine rgK fun U V=>?_
   repeat' (first|refine aA ?_)
   refine aoN (V _ _ ?_);clear V U
   repeat refine sqW ?_
   refine rgK fun U V=>?_
   repeat' (first|refine aA ?_)
   refine aoN (V _ _ ?_);clear V U;refine AWP.cY [(4,.ptr 0 0),(5,.ptr 1 0),(6,.ptr 2 0),(7,.ptr 3 0),(8,.ptr 4 0),(10,.ptr 5 0),(11,.ptr 6 0)] ⟨rfl,rfl,rfl,rfl,rfl,rfl,rfl,tI⟩ ?_;refine AWP.bj 0 rfl rfl ?_;refine AWP.bj 1 rfl rfl ?_;refine AWP.bj 2 rfl rfl ?_;refine AWP.bj 3 rfl rfl ?_;refine AWP.cY [(4,.iptr (bg s)),(5,.iptr (Ed.aF e)),(6,.iptr (bt r)),(7,.iptr (bw c)),(8,.ptr 4 0),(10,.ptr 5 0),(11,.ptr 6 0)] ⟨rfl,rfl,rfl,rfl,rfl,rfl,rfl,tI⟩ ?_
   repeat' (first|refine qS ?_|apply sqW|refine rgK fun U V=>?_|refine aoE (scT (GM) rfl rfl rfl rfl rfl nd rfl rfl nds ?_)|refine aoE (EStep.xp (sz:=1) (es:=(reL s e r c).map qJ) ab rfl rfl rfl rfl (by kernel_rfl) ⟨tI,tI,tI,tI,tI,tI,tI⟩ ?_))
   rintro _ st ⟨rfl,hz,_⟩;have hst:st=rSt (reL s e r c) (bA (reM e c)) ((named e c).1+c.bars):=hz rfl;subst hst;have hne:nJ (db 0)=some false:=rfl
   repeat' (first|refine qP ?_ (h:=fun hg=>by first|exact aa|exact PRun.im sw rfl rfl nd hne|exact af)|apply sqW|refine rgK fun U V=>?_|(refine aN V ?_;clear V U)|refine aS ?_|refine cX ?_ ?_<;>intro hc<;>try simp only[dE] at hc|refine skW ?_|refine rtW ?_)
   · exact absurd hc dCd
   · exact⟨.inr rfl,_,rfl,Ent.of rfl⟩
 · rw[if_neg hx];have hne:=tB (dr (reL s e r c));rw[decide_eq_true hx] at hne;have tE:=vu (dr (reL s e r c));rw[show oH (dr (reL s e r c))=db (dr (reL s e r c)) by unfold db;rw[if_neg hx]] at tE;generalize hy:dr (reL s e r c)=y at *;generalize hev:db y=ev at *;refine PCall.bN ab Tryz.func29 rfl rfl Tryz.ntmps29 rfl ?_
   repeat refine sqW ?_
   refine rgK fun U V=>?_
   repeat' (first|refine qS ?_|refine aB ?_|refine aA ?_)
   refine aoN (V _ _ ?_);clear V U
   repeat refine sqW ?_
   refine rgK fun U V=>?_
   repeat' (first|refine aA ?_)
   refine aoN (V _ _ ?_);clear V U
   repeat refine sqW ?_
   refine rgK fun U V=>?_
   repeat' (first|refine aA ?_)
   refine aoN (V _ _ ?_);clear V U;refine AWP.cY [(4,.ptr 0 0),(5,.ptr 1 0),(6,.ptr 2 0),(7,.ptr 3 0),(8,.ptr 4 0),(10,.ptr 5 0),(11,.ptr 6 0)] ⟨rfl,rfl,rfl,rfl,rfl,rfl,rfl,tI⟩ ?_;refine AWP.bj 0 rfl rfl ?_;refine AWP.bj 1 rfl rfl ?_;refine AWP.bj 2 rfl rfl ?_;refine AWP.bj 3 rfl rfl ?_;refine AWP.cY [(4,.iptr (bg s)),(5,.iptr (Ed.aF e)),(6,.iptr (bt r)),(7,.iptr (bw c)),(8,.ptr 4 0),(10,.ptr 5 0),(11,.ptr 6 0)] ⟨rfl,rfl,rfl,rfl,rfl,rfl,rfl,tI⟩ ?_
   repeat' (first|refine qS ?_|apply sqW|refine rgK fun U V=>?_|refine aoE (scT (GM) rfl rfl rfl rfl rfl nd rfl rfl nds ?_)|refine aoE (EStep.xp (sz:=1) (es:=(reL s e r c).map qJ) ab rfl rfl rfl rfl (by kernel_rfl) ⟨tI,tI,tI,tI,tI,tI,tI⟩ ?_))
   rintro _ st ⟨rfl,_,k,rfl⟩;generalize (if k≤4 then bA cJ else bA (reM e c))=mo;generalize (if k≤2 then (0:Int) else (named e c).1+c.bars)=i9
   repeat' (first|refine qP ?_ (h:=fun hg=>by first|exact aa|exact PRun.im sw rfl rfl nd hne|exact pbD ab rfl rfl nds|exact pc tE|exact af)|apply sqW|refine rgK fun U V=>?_|(refine aN V ?_;clear V U)|refine aS ?_|refine cX ?_ ?_<;>intro hc<;>try simp only[dE] at hc|refine skW ?_|refine rtW ?_)
   · exact⟨.inr rfl,_,rfl,Ent.of rfl⟩
   · exact absurd hc dCd
end Go.Proofs.YthiaimakjmhegaaGreatDoor.Pl
