/- Parts of the proof. No statement is proved here. -/
import Derived.Test.YthiaimakjmhegaaGreatDoorP23
import Derived.Test.YthiaimakjmhegaaGreatDoorP26
set_option linter.unusedVariables false
set_option linter.unusedSimpArgs false
set_option maxHeartbeats 16000000
set_option maxRecDepth 20000
namespace Go.Proofs.YthiaimakjmhegaaGreatDoor.Pl
open Go.Ab Go.Pl
attribute [local irreducible] AWP AOps EStep AQ PStep PRun PCall TCall VCall
def nh (f:aG):Bool:=decide (f.bars≤60)&&decide ((f.ar.length:Int)≤110)&&decide ((f.ends.length:Int)≤60)&&decide ((f.cuts.length:Int)≤110)
structure tM (f:aG):Prop where
 ar:f.ar.length≤9223372036854775807
 ends:f.ends.length≤9223372036854775807
 cuts:f.cuts.length≤9223372036854775807
theorem vN {s:Score} (h:bG s=true) {k:Nat} (hk:k<s.bars.length):dp (s.bars.getD k default).len=true∧1≤cH (s.bars.getD k default).len∧cH (s.bars.getD k default).len≤40320:=by
 have dv:dQ s.bars=true:=by
  unfold bG kb at h;simp only[zA0,zB3,zAg,zBc] at h;exact h.1.1.1.1.2
 unfold dQ at dv;simp only[zA0,zA4] at dv;have hb:=dv.1.1.1 _ (bD hk);have hb2:=hb;rw[barT] at hb2;simp only[zB3,zAg,dEf] at hb2;refine⟨?_,oM,oM⟩;unfold gx ur at hb;simp only[zA0,zB3,zAg,zBc] at hb;exact hb.2.1.1
theorem Cq {a:Rat} (ha:dp a=true):1≤a.d∧a.d * Int.tdiv 1680 a.d=1680:=by
 obtain⟨a1,a2,a3⟩:=fD.1 ha;have c1:=cL.1 a1;exact⟨c1.1,by have:=Int.mul_tdiv_add_tmod 1680 a.d;omega⟩
theorem G7 {a b:Rat} (ha:dp a=true) (hb:dp b=true):ef a<ef b↔a.n * b.d<b.n * a.d:=by
 obtain⟨a1,e1⟩:=Cq ha;obtain⟨b1,e2⟩:=Cq hb;obtain⟨an,ad⟩:=a;obtain⟨bn,bd⟩:=b;dsimp only at *;unfold ef;dsimp only;generalize Int.tdiv 1680 ad=q at *;generalize Int.tdiv 1680 bd=r at *;have hp:0<ad * bd:=Int.mul_pos oM oM;have l:an * q * (ad * bd)=(an * bd) * 1680:=by
  calc an * q * (ad * bd)=(an * bd) * (ad * q):=by ac_rfl
   _=_:=by rw[e1]
 have l2:bn * r * (ad * bd)=(bn * ad) * 1680:=by
  calc bn * r * (ad * bd)=(bn * ad) * (bd * r):=by ac_rfl
   _=_:=by rw[e2]
 constructor
 · intro h;have h2:=Int.mul_lt_mul_of_pos_right h hp;rw[l,l2] at h2;omega
 · intro h;refine Int.lt_of_mul_lt_mul_right (a:=ad * bd) ?_ (Int.le_of_lt hp);rw[l,l2];omega
theorem ru {a b:Rat} (ha:dp a=true) (hb:dp b=true):under a b=decide (cH a<cH b):=by
 obtain⟨a1,_,_⟩:=fD.1 ha;obtain⟨b1,_,_⟩:=fD.1 hb;have e1:cH a=ef a:=by unfold cH;rw[if_pos ha]
 have e2:cH b=ef b:=by unfold cH;rw[if_pos hb]
 rw[e1,e2,decide_eq_decide.2 (G7 ha hb)];unfold under ee;rw[a1,b1,zAy,if_pos rfl];by_cases h:a.n * b.d<b.n * a.d
 · rw[if_pos h,decide_eq_true h];rfl
 · rw[if_neg h,decide_eq_false h];split<;>rfl
theorem Jp {a:Rat} (ha:dp a=true) (h:ef a<40320):a.n<24 * a.d:=by
 obtain⟨a1,e1⟩:=Cq ha;obtain⟨an,ad⟩:=a;dsimp only at *;unfold ef at h;dsimp only at h;generalize Int.tdiv 1680 ad=q at *;have hq:0<q:=by
  rcases Int.lt_or_le 0 q with h1|h1
  · exact h1
  · have:=Int.mul_nonpos_of_nonneg_of_nonpos (a:=ad) (b:=q) oM h1;omega
 refine Int.lt_of_mul_lt_mul_right (a:=q) ?_ (Int.le_of_lt hq);have:24 * ad * q=24 * (ad * q):=Int.mul_assoc ..;rw[this,e1];omega
theorem zY {s:Score} {r:Room} {m:Mom} (hs:bG s=true) (hd:dp m.pos=true) (h:reason s r m=0) :
 ∃i:Nat,cw s.bars m.bar=i∧i<s.bars.length∧cH m.pos<cH (s.bars.getD i default).len∧m.pos.n<24 * m.pos.d∧(⟨i,m.pass⟩:cB)∈bM r.form:=by
 unfold reason at h;by_cases h0:cw s.bars m.bar<0
 · rw[if_pos h0] at h;cases h
 rw[if_neg h0] at h;obtain⟨i,hi⟩:∃i:Nat,cw s.bars m.bar=i:=⟨(cw s.bars m.bar).toNat,oM⟩
 have hil:=(xX s.bars m.bar).2;rw[hi] at h hil;rw[zAe] at h;have hil:i<s.bars.length:=oM;obtain⟨b1,b2,b3⟩:=vN hs hil;rw[ru hd b1] at h;by_cases h1:cH m.pos<cH (s.bars.getD i default).len
 · rw[decide_eq_true h1,if_neg dCd] at h;have hv:force r.form ⟨i,m.pass⟩=.yes:=by
    cases hf:force r.form ⟨i,m.pass⟩ with
    |yes=>rfl
    |cut=>rw[hf] at h;cases h
    |never=>rw[hf] at h;cases h
   refine⟨i,hi,hil,h1,Jp hd ?_,DE.1 hv⟩;have e1:cH m.pos=ef m.pos:=by unfold cH;rw[if_pos hd]
   rw[e1] at h1;omega
 · rw[decide_eq_false h1,if_pos rfl] at h;cases h
theorem G8 {α:Type} [Inhabited α] {l:List α} {k:Nat} (h:k<l.length):l.drop k=l.getD k default::l.drop (k+1):=by
 rw[bb h,zBj h]
theorem E0 {α:Type} [Inhabited α] {p:α→Bool} {l:List α} {k:Nat} (hk:k<l.length) (hp:p (l.getD k default)=true) (hc:l.countP p=1):∀j,j<l.length→j≠k→p (l.getD j default)=false:=by
 have e:l.countP p=(l.take k).countP p+(1+(l.drop (k+1)).countP p):=by
  conv=>lhs;rw[←zCn k l,G8 hk,List.countP_append,List.countP_cons_of_pos hp]
  omega
 have h1:(l.take k).countP p=0:=oM;have h2:(l.drop (k+1)).countP p=0:=oM;rw[List.countP_eq_zero] at h1 h2;intro j hj hne;rw[bb hj];rcases Nat.lt_or_gt_of_ne hne with h|h
 · have:=h1 l[j] (zCd.2 ⟨j,oM,rfl⟩);simpa using this
 · have:=h2 l[j] (List.mem_drop_iff_getElem.2 ⟨j - (k+1),oM,by congr 1;omega⟩);simpa using this
theorem E1 {e:Ed.ah} (hf:Ed.bE e=true) {k:Nat} (hk:k<e.bars.length) (h:fh e k=true) (hn:inB (e.bars.getD k default).number 0 100000=true):Ed.gQ e (e.bars.getD k default).number=((k:Int),0):=by
 unfold fh tA at h;rw[zAe] at h;have au:=E0 (p:=Ed.il (e.bars.getD k default).number) hk (by unfold Ed.il;simp) (by simpa using h);have h1:Ed.mT e (e.bars.getD k default).number=k:=bP hk (by unfold Ed.il;simp) fun j hj=>au j oM oM
 have h2:=Ed.v8 (p:=Ed.il (e.bars.getD k default).number) (l:=e.bars) (i:=k) fun j hj hlt=>au j hj oM
 unfold Ed.gQ;rw[hf,hn,if_pos (show(true&&true)=true from rfl),h1,if_neg oM];rw[show((k:Int)+1).toNat=k+1 by omega,if_neg oM]
theorem ry {s:Score} {e:Ed.ah} {r:Room} (h:bW s e r=true):bG s=true∧Ed.bE e=true∧aW r.form=true∧r.form.bars=(s.bars.length:Int)∧r.version=s.version:=by
 unfold bW tz at h;simp only[zA0,beq_iff_eq] at h;exact⟨h.1.1,h.1.2,h.2.2,h.2.1.2,h.2.1.1⟩
theorem sF {e:Ed.ah} (hf:Ed.bE e=true) {k:Nat} (hk:k<e.bars.length):inB (e.bars.getD k default).number 0 100000=true∧inB (e.bars.getD k default).bar 1 1000000=true∧inB (e.bars.getD k default).pass 0 9=true:=by
 unfold Ed.bE at hf;simp only[zA0,zA4] at hf;have:=hf.1.2 _ (bD hk);unfold Ed.gx at this;simp only[zA0] at this;exact⟨this.1.1,this.1.2,this.2⟩
theorem gl {a lo hi:Int}:inB a lo hi=true↔lo≤a∧a≤hi:=by
 unfold inB;simp only[zA0,dEt]
theorem E3 {nm:ByteArray} (h:Ed.eB nm=true):1≤nm.size∧nm.size≤12:=by
 unfold Ed.eB at h;simp only[zA0,dEt] at h;exact⟨h.1.1,h.1.2⟩
theorem G9 {e:Ed.ah} (hf:Ed.bE e=true) {i:Int} {x:Nm} (hx:yu e i x) (b:Int) (q:Rat) (p:Int) :
 named e ⟨x.letter,x.number,b,q,p⟩=(x.pos,0)∧kl ⟨x.letter,x.number,b,q,p⟩=true∧x.letter.size≤12:=by
 obtain⟨⟨a1,a2⟩,_,hn⟩:=hx;obtain⟨nl,nn,np⟩:=x;dsimp only at *;rcases hn with ⟨j,hj,h1,h2,h3⟩|⟨h1,h2,h3⟩
 · subst h1 h2 h3;have hl:=oT hf hj;have hnm:Ed.eB (e.letters.getD j default).name=true:=by
    unfold Ed.kF at hl;simp only[zA0] at hl;exact hl.1.1
   have hp:=E3 hnm;refine⟨?_,?_,hp.2⟩
   · unfold named;rw[if_pos (show(e.letters.getD j default).name.size≠0 by omega)];show Ed.gR e (e.letters.getD j default).name=_;rw[Ed.AH hf hnm,Ed.uH hf hj,if_neg oM,zAe]
   · unfold kl;dsimp only;rw[hnm];simp
 · subst h1 h2;obtain⟨k,rfl⟩:=zBk a1;have hk:k<e.bars.length:=oM;have hb:=(sF hf hk).1;refine⟨?_,?_,by decide⟩
   · unfold named;rw[if_neg (show ¬(⟨#[]⟩:ByteArray).size≠0 by decide)];show Ed.gQ e (e.bars.getD k default).number=_;exact E1 hf hk h3 hb
   · unfold kl;show((true&&inB (e.bars.getD k default).number 0 100000)||_)=true;rw[hb];rfl
theorem E4 {s:Score} {e:Ed.ah} {r:Room} {m:Mom} (h:bW s e r=true) (hm:gY m=true) (hr:reason s r m=0) :
 iy s e r m=(fa,false,0)∨∃c,iy s e r m=(c,true,0)∧cU c=true∧resolve s e r c=(m,0)∧c.letter.size≤12:=by
 obtain⟨hs,hf,bL,B0,_⟩:=ry h;have hm2:=hm;unfold gY at hm2;simp only[zA0] at hm2;obtain⟨⟨hd,hb1⟩,hp1⟩:=hm2;obtain⟨_,_,_,_,h24,_⟩:=zY hs hd hr
 have e1:iy s e r m=if (Ed.plR e m.bar m.pass).ok=false then (fa,false,(0:Int))
  else match sr e (Ed.plR e m.bar m.pass).pos with
   |none=>(fa,false,0)
   |some x=>(⟨x.letter,x.number,(Ed.plR e m.bar m.pass).pos - x.pos,m.pos,(Ed.plR e m.bar m.pass).pass⟩,true,0):=by
  unfold iy;rw[h,hm,hr,if_neg dCd,if_neg dCd];rfl
 rw[e1];by_cases hp:(Ed.plR e m.bar m.pass).ok=false
 · rw[if_pos hp];exact .inl rfl
 rw[if_neg hp];have e2:Ed.plR e m.bar m.pass=if Ed.plI e m.bar m.pass<0 then ⟨0,0,false,0⟩ else ⟨Ed.plI e m.bar m.pass,if (e.bars.getD (Ed.plI e m.bar m.pass).toNat default).pass==0&&decide (m.pass>1) then m.pass else 0,true,0⟩:=by
  unfold Ed.plR;rw[hf,hb1,hp1];rfl
 by_cases B9:Ed.plI e m.bar m.pass<0
 · rw[e2,if_pos B9] at hp;exact absurd rfl hp
 rw[if_neg B9] at e2;obtain⟨i,hi,hil,hat,_⟩:=bY (p:=Ed.plP m.bar m.pass) (l:=e.bars) (show 0≤az (Ed.plP m.bar m.pass) e.bars by have:¬az (Ed.plP m.bar m.pass) e.bars<0:=B9;omega);have hi2:Ed.plI e m.bar m.pass=i:=hi;rw[hi2,zAe] at e2;rw[e2];dsimp only;obtain⟨B,hB⟩:∃B,e.bars.getD i default=B:=⟨_,rfl⟩
 rw[hB] at hat ⊢;obtain⟨w1,w2,w3⟩:=sF hf hil;rw[hB] at w1 w2 w3;unfold Ed.plP at hat;simp only[zA0,zC5,beq_iff_eq] at hat;obtain⟨dv,hpass⟩:=hat;cases qL:sr e (i:Int) with
 |none=>exact .inl rfl
 | some x =>
   refine .inr ⟨_,rfl,?_⟩;dsimp only;have hx:yu e i x:=by
    refine AW hf ⟨oM,oM⟩ ?_;unfold sr at qL;obtain⟨y,hy,hyx⟩:=List.exists_of_findSome?_eq_some qL;have:y=some x:=hyx;exact this▸hy
   obtain⟨n1,n2,n3⟩:=G9 hf hx ((i:Int) - x.pos) m.pos (if B.pass==0&&decide (m.pass>1) then m.pass else 0);obtain⟨f1,f2⟩:=hx.far;have hpin:=gl.1 hp1;have w3':=gl.1 w3;have hpi:inB (if B.pass==0&&decide (m.pass>1) then m.pass else 0) 0 20000=true:=by
    rw[gl];split<;>omega
   have hc:cU ⟨x.letter,x.number,(i:Int) - x.pos,m.pos,if B.pass==0&&decide (m.pass>1) then m.pass else 0⟩=true:=by
    unfold cU;dsimp only;rw[n2,hd,decide_eq_true h24,hpi,gl.2 (by omega:(-1000:Int)≤(i:Int) - x.pos∧(i:Int) - x.pos≤1000)];rfl
   refine⟨hc,?_,n3⟩;have e3:Ed.viR e (x.pos+((i:Int) - x.pos)) (if B.pass==0&&decide (m.pass>1) then m.pass else 0)=⟨m.bar,m.pass,0⟩:=by
    rw[show x.pos+((i:Int) - x.pos)=(i:Int) by omega];unfold Ed.viR;rw[hf,hpi,gl.2 (by omega:(0:Int)≤(i:Int)∧(i:Int)≤(e.bars.length:Int) - 1),if_pos (show(true&&true&&true)=true from rfl),zAe,hB,dv];by_cases hz:B.pass=0
    · rw[if_pos hz,hz];congr 1;by_cases h1:m.pass>1
      · rw[decide_eq_true h1,if_pos (by rfl)];omega
      · rw[decide_eq_false h1,if_neg dCd];omega
    · rw[if_neg hz];have hz2:(B.pass==0)=false:=by simpa using hz
      rw[hz2,zBu,if_neg sMp];congr 1;omega
   unfold resolve;rw[h,hc,n1];dsimp only;rw[e3];dsimp only;rw[if_neg dCd,if_neg dCd,decide_eq_true (by omega:0≤x.pos+((i:Int) - x.pos)),decide_eq_true (by omega:x.pos+((i:Int) - x.pos)<(e.bars.length:Int)),if_neg dCd,if_neg dCd,hr,if_neg dCd]
theorem Cr {c:Call} (h:cU c=true):kl c=true∧dp c.gE=true∧(-1000≤c.bars∧c.bars≤1000)∧inB c.pass 0 20000=true:=by
 unfold cU at h;simp only[zA0] at h;exact⟨h.1.1.1,h.1.1.2.1,gl.1 h.1.2,h.2⟩
theorem Kw {e:Ed.ah} (hf:Ed.bE e=true) {i p:Int} (hi:0≤i∧i<(e.bars.length:Int)) (hp:inB p 0 20000=true) :
 ((Ed.viR e i p).err≠1∧(Ed.viR e i p).err≠2)∧((Ed.viR e i p).err=0→(Ed.viR e i p).bar=(e.bars.getD i.toNat default).bar∧inB (Ed.viR e i p).bar 1 1000000=true∧inB (Ed.viR e i p).pass 1 20000=true):=by
 obtain⟨k,rfl⟩:=zBk hi.1;have hk:k<e.bars.length:=oM;obtain⟨w1,w2,w3⟩:=sF hf hk;have p1:=gl.1 hp;have p3:=gl.1 w3;unfold Ed.viR;rw[hf,hp,gl.2 (by omega:(0:Int)≤(k:Int)∧(k:Int)≤(e.bars.length:Int) - 1),if_pos (show(true&&true&&true)=true from rfl),zAe];by_cases h1:(e.bars.getD k default).pass=0
 · rw[if_pos h1];exact⟨⟨by simp,by simp⟩,fun _=>⟨rfl,w2,gl.2 (by dsimp only;omega)⟩⟩
 · rw[if_neg h1];split
   · exact⟨⟨by simp,by simp⟩,fun h=>by simp at h⟩
   · exact⟨⟨by simp,by simp⟩,fun _=>⟨rfl,w2,gl.2 (by dsimp only;omega)⟩⟩
def goal (s:Score) (e:Ed.ah) (r:Room) (c:Call):Mom×Int :=
 if (bW s e r&&cU c)=false then (cJ,1)
 else if (named e c).2≠0 then (cJ,(named e c).2)
 else if (decide (0≤(named e c).1+c.bars)&&decide ((named e c).1+c.bars<(e.bars.length:Int)))=false then (cJ,21)
 else if (Ed.viR e ((named e c).1+c.bars) c.pass).err≠0 then (cJ,(Ed.viR e ((named e c).1+c.bars) c.pass).err)
 else (⟨(Ed.viR e ((named e c).1+c.bars) c.pass).bar,(Ed.viR e ((named e c).1+c.bars) c.pass).pass,c.gE⟩,0)
theorem qp (s:Score) (e:Ed.ah) (r:Room) (c:Call):resolve s e r c=if (goal s e r c).2≠0 then goal s e r c else if reason s r (goal s e r c).1≠0 then (cJ,reason s r (goal s e r c).1) else goal s e r c:=by
 unfold resolve goal;by_cases h1:(bW s e r&&cU c)=false
 · rw[if_pos h1,if_pos h1,if_pos dCd]
 rw[if_neg h1,if_neg h1];by_cases h2:(named e c).2≠0
 · rw[if_pos h2,if_pos h2,if_pos h2]
 rw[if_neg h2,if_neg h2];by_cases h3:(decide (0≤(named e c).1+c.bars)&&decide ((named e c).1+c.bars<(e.bars.length:Int)))=false
 · rw[if_pos h3,if_pos h3,if_pos dCd]
 rw[if_neg h3,if_neg h3];by_cases h4:(Ed.viR e ((named e c).1+c.bars) c.pass).err≠0
 · rw[if_pos h4,if_pos h4,if_pos h4]
 rw[if_neg h4,if_neg h4];dsimp only;rw[if_neg (show ¬(0:Int)≠0 by decide)]
theorem Jq {s:Score} {e:Ed.ah} {r:Room} {c:Call} (h:(goal s e r c).2=0) :
 bW s e r=true∧cU c=true∧(goal s e r c).1.pos=c.gE∧gY (goal s e r c).1=true∧∃i:Nat,i<e.bars.length∧(e.bars.getD i default).bar=(goal s e r c).1.bar:=by
 unfold goal at h ⊢;by_cases h1:(bW s e r&&cU c)=false
 · rw[if_pos h1] at h;cases h
 rw[if_neg h1] at h ⊢;have h1':bW s e r=true∧cU c=true:=by simpa using h1
 obtain⟨c1,c2,c3,c4⟩:=Cr h1'.2;obtain⟨hs,hf,_⟩:=ry h1'.1;by_cases h2:(named e c).2≠0
 · rw[if_pos h2] at h;exact absurd h h2
 rw[if_neg h2] at h ⊢;by_cases h3:(decide (0≤(named e c).1+c.bars)&&decide ((named e c).1+c.bars<(e.bars.length:Int)))=false
 · rw[if_pos h3] at h;cases h
 rw[if_neg h3] at h ⊢;have h3':0≤(named e c).1+c.bars∧(named e c).1+c.bars<(e.bars.length:Int):=by simpa using h3
 by_cases h4:(Ed.viR e ((named e c).1+c.bars) c.pass).err≠0
 · rw[if_pos h4] at h;exact absurd h h4
 rw[if_neg h4];obtain⟨v1,v2,v3⟩:=(Kw hf h3' c4).2 (by simpa using h4);refine⟨h1'.1,h1'.2,rfl,?_,_,oM,v1.symm⟩;unfold gY;dsimp only;rw[c2,v2,v3];rfl
theorem Jr {s:Score} {e:Ed.ah} {r:Room} {c:Call} (h:(goal s e r c).2≠0):(goal s e r c).1=cJ:=by
 unfold goal at h ⊢;split
 · rfl
 rename_i h1;rw[if_neg h1] at h;split
 · rfl
 rename_i h2;rw[if_neg h2] at h;split
 · rfl
 rename_i h3;rw[if_neg h3] at h;split
 · rfl
 rename_i h4;rw[if_neg h4] at h;exact absurd rfl h
theorem Cs {s:Score} {e:Ed.ah} {r:Room} {c:Call} (h:(resolve s e r c).2=0) :
 bW s e r=true∧cU c=true∧(resolve s e r c).1.pos=c.gE∧gY (resolve s e r c).1=true∧reason s r (resolve s e r c).1=0∧(∃i:Nat,i<e.bars.length∧(e.bars.getD i default).bar=(resolve s e r c).1.bar)∧goal s e r c=resolve s e r c:=by
 rw[qp] at h ⊢;by_cases h1:(goal s e r c).2≠0
 · rw[if_pos h1] at h;exact absurd h h1
 rw[if_neg h1] at h ⊢;by_cases h2:reason s r (goal s e r c).1≠0
 · rw[if_pos h2] at h;exact absurd h h2
 rw[if_neg h2];obtain⟨g1,g2,g3,g4,g5⟩:=Jq (by simpa using h1:(goal s e r c).2=0);exact⟨g1,g2,g3,g4,by simpa using h2,g5,rfl⟩
theorem Ct {s:Score} {e:Ed.ah} {r:Room} {c:Call} (h:(resolve s e r c).2≠0):(resolve s e r c).1=cJ:=by
 rw[qp] at h ⊢;by_cases h1:(goal s e r c).2≠0
 · rw[if_pos h1];exact Jr h1
 rw[if_neg h1] at h ⊢;by_cases h2:reason s r (goal s e r c).1≠0
 · rw[if_pos h2]
 rw[if_neg h2] at h;exact absurd h h1
def encI (n:Int):List AV:=[.int n]
def ix (l:List Int) (nb:Nat):List (List AV):=(List.range nb).map fun (b:Nat)=>[AV.int ((l.count (b:Int):Nat):Int)]
theorem Ha (nb:Nat):List.replicate nb [AV.int 0]=ix [] nb:=by
 unfold ix;refine List.ext_getElem sMp fun i h1 h2=>?_
 simp
theorem Kx (m:Nat) (l:List Int) (nb:Nat):aD m (.arr 1 0 (ix l nb))=true:=by
 show(ix l nb).all _=true;rw[zA4];intro x hx;unfold ix at hx;obtain⟨i,_,rfl⟩:=zAq.1 hx;rfl
theorem Js (l:List Int) (nb:Nat):(ix l nb).length=nb:=by unfold ix;simp
theorem Jt {l:List Int} {nb b:Nat} (h:b<nb):(ix l nb).getD b []=[.int ((l.count (b:Int):Nat):Int)]:=by
 unfold ix;simp[List.getD,h]
theorem Hb {l:List Int} {nb bn:Nat} (h:bn<nb):(ix l nb).set bn [.int (((l.count (bn:Int):Nat):Int)+1)]=ix (l++[(bn:Int)]) nb:=by
 unfold ix;refine List.ext_getElem sMp fun i h1 h2=>?_
 rw[List.getElem_set];simp only[List.getElem_map,List.getElem_range,List.count_append];by_cases e:bn=i
 · subst e;rw[if_pos rfl,List.count_singleton_self];rfl
 · rw[if_neg e,List.count_singleton,if_neg (by simp;omega)];rfl
theorem Ju {l:List (List AV)} {b:Nat} {x:List AV} (h:b<l.length):(l.set b x).getD b []=x:=by
 simp[List.getD,h]
theorem Cu (l:List cB) (v:cB):l.map bC++[bC v]=(l++[v]).map bC:=by rw[zBw];rfl
theorem sG (l:List Int):(cj l).length=l.length:=by unfold cj;simp
theorem Cv {l:List Int} {k:Nat} (h:k<l.length):l.take (k+1)=l.take k++[l.getD k default]:=by
 rw[zC8,zA1 h,bb h];rfl
theorem rz (f:aG) (hf:FIn f) (bL:aW f=true):PCall Tryz.prog 52 [.agg (aP f)] (.sl 2 ((cj (aK f)).map bC) .no):=by
 have hA:sA f:=sA.of (by rw[dJ,zA0] at bL;exact bL.1);have hw:=rm f hf hA;have hb:=hA.kX.ok.bars;have hlen:(aK f).length≤20000:=by rw[dJ,zA0] at bL;simpa using bL.2
 have hin:∀k,k<(aK f).length→0≤(aK f).getD k default∧(aK f).getD k default<f.bars:=fun k hk=>DG bL (bD hk)
 obtain⟨nb,hnb⟩:∃nb:Nat,f.bars=nb:=⟨f.bars.toNat,by
  have:1≤f.bars:=by unfold aW at bL;simp only[zA0,dEt] at bL;exact bL.1.1.1.1.1.1
  omega⟩
 generalize aK f=W at *;refine PCall.body Tryz.func52 rfl rfl Tryz.ntmps52 rfl rfl ?_
 repeat' (first|refine qP ?_ (h:=fun hg=>by first|exact aa|exact pc hw|exact af|fail)|apply sqW|refine rgK fun U V=>?_|(refine aN V ?_;clear V U)|refine aB ?_|refine aoE (EStep.FN (d:=11) (m:=f.bars) rfl rfl rfl rfl rfl rfl rfl rfl dCd rfl tI rfl tI ⟨oM,oM⟩ ?_)|refine blK ?_)
 refine AWP.iQ (d:=5) (sz:=2) rfl ?_;have hr0:List.replicate f.bars.toNat [AV.int 0]=ix [] nb:=by rw[hnb];exact Ha nb
 have hok3:∀k,([.var (aP f),.arr 1 0 (ix (W.take k) nb),.own 2 ((cj (W.take k)).map bC).length]:ae).all (aD 3)=true:=fun k=>by
  rw[zB4,zB4,Kx];rfl
 have LZ:∀k,((cj (W.take k)).map bC).length=min k W.length:=fun k=>by rw[lLm,sG,zAn]
 refine lpD (ι:=Nat) (fun k=>[(1,.ptr 0 0),(3,.sl 1 (W.map encI) .no),(4,.sla 1 1 0 nb 0),(5,.sl 2 ((cj (W.take k)).map bC) (.own 2)),(6,.int k)]) (fun k=>[.var (aP f),.arr 1 0 (ix (W.take k) nb),.own 2 ((cj (W.take k)).map bC).length])
  (fun k=>k≤W.length) (fun k=>W.length - k) 3 (fun _=>rfl) 0 (nZl _) ⟨rfl,rfl,by rw[hnb];rfl,rfl,rfl,tI⟩ (by show([.var (aP f),.arr 1 0 (List.replicate f.bars.toNat [.int 0]),.own 2 0]:ae)=_;rw[hr0];rfl) (fun _ _=>rfl) (fun k _=>hok3 k) ?_
 intro k hk;by_cases hlt:k<W.length
 · obtain⟨hb0,hb1⟩:=hin k hlt;obtain⟨b,hbk⟩:∃b:Nat,W.getD k default=b:=⟨(W.getD k default).toNat,oM⟩
   rw[hbk] at hb1;have hbn:b<nb:=oM;have etk:=Cv hlt;rw[hbk] at etk;have hvs:=DC (W.take k) (b:Int);rw[←etk] at hvs;have hcs:=Hb (l:=W.take k) hbn;rw[←etk] at hcs;have oK:=Jt (l:=W.take k) hbn;have hcl:=Js (W.take k) nb;have hll:=LZ k;have hcle:((W.take k).count (b:Int))≤20000:=by
    have:=List.count_le_length (a:=(b:Int)) (l:=W.take k);rw[zAn] at this;omega
   obtain⟨C,hC⟩:∃C,(W.take k).count (b:Int)=C:=⟨_,rfl⟩
   rw[hC] at hvs hcs oK hcle;obtain⟨Z,hZ⟩:∃Z,ix (W.take k) nb=Z:=⟨_,rfl⟩
   rw[hZ] at hcs oK hcl;obtain⟨Y9,hV⟩:∃Y9,cj (W.take k)=Y9:=⟨_,rfl⟩
   rw[hV] at hvs hll;rw[hZ,hV];have hs2:(Z.set b [.int ((C:Int)+1)]).getD b []=[.int ((C:Int)+1)]:=Ju oM;have hsl:b<(Z.set b [AV.int ((C:Int)+1)]).length:=by rw[zDq];omega
   have hzl:b<Z.length:=oM;have hvl:Y9.length≤20000:=by rw[lLm] at hll;omega
   repeat' (first|refine qP ?_ (h:=fun hg=>by first|exact PRun.mn ab rfl rfl nd rfl hzl oK rfl rfl|exact PRun.qy ab rfl rfl nd rfl nd rfl dCd rfl ⟨oM,oM⟩|exact iX encI W ((k:Nat):Int) hbk (hb:=oM)|exact aa|exact af)|apply sqW|refine rgK fun U V=>?_|(refine aN V ?_;clear V U)|refine aoE (EStep.sP (l:=1) (i:=b) ab rfl rfl rfl tI rfl hzl rfl tI rfl rfl rfl rfl rfl rfl ?_)|refine cX ?_ ?_<;>intro hc<;>try simp only[dE] at hc|refine blK ?_|refine exW ?_|refine skW ?_|refine rtW ?_)
   all_goals (first|(exfalso;omega)|skip)
   generalize hZ2:Z.set b [AV.int ((C:Int)+1)]=Z2 at *;refine AWP.dZ (fun j=>match j with|0=>[.var (aP f),.arr 1 0 Z2,.own 2 (Y9.map bC).length]|_=>[.var (aP f),.arr 1 0 Z2,.own 2 (Y9.map bC++[bC ⟨b,(C:Int)+1⟩]).length]) (by rw[←hZ2];rfl) (by kernel_rfl) dKn rfl dKn (fun U V=>?_)
   repeat' (first
    |refine yt (h:=by refine⟨?_,?_,?_,?_⟩<;>intro hh hg<;>first|exact absurd hh dKn|exact PRun.mn ab rfl rfl nd rfl hsl hs2 rfl rfl|exact PRun.qy ab rfl rfl nd rfl nd rfl dCd rfl ⟨oM,oM⟩|exact iX encI W ((k:Nat):Int) hbk (hb:=oM)|exact aa|exact pbD ab rfl rfl nds|exact pbS ab rfl rfl nds|exact af|fail) (hk:=?_)|fail)
   refine YQ.e (v:=.sl 2 (Y9.map bC++[bC ⟨b,(C:Int)+1⟩]) (.own 2)) (d:=some 41) rfl rfl rfl ?_ ?_
   · intro aw he;exact apO (l:=2) ab rfl rfl rfl dCd (Rd.w ((ai (he 27 dKn)).trans rfl) (by rw[aj (he 27 dKn)];first|exact tI|exact rfl)) rfl (Rd.w ((ai (he 40 dKn)).trans rfl) (by rw[aj (he 40 dKn)];first|exact tI|exact rfl)) (.sl rfl (by intro x hx;rcases zA9.1 hx with rfl;rfl)) (lkG rfl) (lkG rfl) rfl rfl (by simp only[lLm,lLa,zAd,zAm];omega) (by simp only[lLm,lLa,zAd,zAm];omega) ⟨rfl,rfl⟩
   repeat' (first
    |refine yt (h:=by refine⟨?_,?_,?_,?_⟩<;>intro hh hg<;>first|exact absurd hh dKn|exact aa|exact pbD ab rfl rfl nds|exact af|fail) (hk:=?_)|fail)
   refine YQ.nil (V _ _ ?_);clear V U
   repeat' (first|refine qS ?_|refine rgK fun U V=>?_|(refine aN V ?_;clear V U))
   refine⟨k+1,hlt,oM,⟨rfl,rfl,rfl,?_,rfl,tI⟩,?_⟩
   · rw[hvs,←Cu];rfl
   · rw[hvs,←hcs,←Cu];rfl
 · obtain rfl:k=W.length:=oM;rw[zBl]
   repeat' (first|refine qT ?_|apply sqW|refine rgK fun U V=>?_|(refine aN V ?_;clear V U)|refine cX ?_ ?_<;>intro hc<;>try simp only[dE] at hc|refine blK ?_|refine exW ?_|refine skW ?_|refine rtW ?_)
   all_goals (first|(exfalso;omega)|skip)
   exact⟨.inr rfl,Ent.of rfl⟩
theorem tP (l:List cB) (v:cB) (hl:l.length≤1000000000):PCall Tryz.prog 51 [.sl 2 (l.map bC) .no,.agg (bC v)] (.b (decide (v∈l))):=by
 refine PCall.body Tryz.func51 rfl rfl Tryz.ntmps51 rfl rfl ?_
 repeat' (first|refine qS ?_|apply sqW|refine rgK fun U V=>?_|(refine aN V ?_;clear V U)|refine aB ?_|refine blK ?_)
 refine lpW (ι:=Nat) (fun k=>[(0,.sl 2 (l.map bC) .no),(3,.ptr 0 0),(5,.int k)]) (fun _=>[.var (bC v)]) (fun k=>k≤l.length∧∀j,j<k→gW (l.getD j default) v=false) (fun k=>l.length - k) 0 ⟨nZl _,fun j h=>absurd h oM⟩ ⟨rfl,rfl,rfl,tI⟩ rfl ?_;rintro k ⟨hk,au⟩;by_cases hlt:k<l.length
 · obtain⟨x,hx⟩:∃x,l.getD k default=x:=⟨_,rfl⟩
   have wH:gW x v=false→∀j,j<k+1→gW (l.getD j default) v=false:=fun h j hj=>aH au (by rw[hx];exact h) hj
   repeat' (first|refine qT ?_|apply sqW|refine rgK fun U V=>?_|(refine aN V ?_;clear V U)|refine cX ?_ ?_<;>intro hc<;>try simp only[dE] at hc|refine blK ?_|refine exW ?_|refine skW ?_|refine rtW ?_|refine kD fun U V=>?_|(refine aqN (V _ ?_);clear V U)|refine aqQ rfl rfl (fun hg=>by first|exact iX bC l ((k:Nat):Int) hx (hb:=oM)|exact aa|exact PRun.eqS flV rfl rfl nd rfl nd rfl|exact af|fail) (by exact rfl) ?_)
   all_goals first|(exfalso;omega)|skip
   · refine⟨.inr rfl,Ent.b ?_⟩;have he:x=v:=((mC x v).1 hc).symm;rw[decide_eq_true (he▸hx▸bD hlt)]
   · exact⟨k+1,⟨oM,wH hc⟩,oM,⟨rfl,rfl,rfl,tI⟩,rfl⟩
 · repeat' (first|refine qT ?_|apply sqW|refine rgK fun U V=>?_|(refine aN V ?_;clear V U)|refine cX ?_ ?_<;>intro hc<;>try simp only[dE] at hc|refine blK ?_|refine exW ?_|refine skW ?_|refine rtW ?_|refine kD fun U V=>?_|refine aqQ rfl rfl (fun hg=>by first|exact aa|exact af) (by exact rfl) ?_)
   all_goals first|(exfalso;omega)|skip
   refine⟨.inr rfl,Ent.b ?_⟩;rw[decide_eq_false];intro hm;obtain⟨j,hj,e⟩:=zE0 hm;have h9:=au j oM;rw[bb hj,e] at h9;have:=(mC v v).2 rfl;rw[this] at h9;exact absurd h9 dCd
theorem E5 {α:Type} [Inhabited α] {p:α→Bool} {l:List α} {k:Nat} (h:k<l.length):(l.take (k+1)).any p=((l.take k).any p||p (l.getD k default)):=by
 rw[zC8,zA1 h,List.any_append,bb h];simp
theorem yO (f:aG) (hf:FIn f) (bL:aW f=true):PCall Tryz.prog 50 [.agg (aP f)] (.tup [.sl 2 ((bM f).map bC) .no,.int 0]):=by
 have h1:=zU f hf;rw[bL] at h1;have h2:=rz f hf bL;have hlen:(cj (aK f)).length≤20000:=by rw[sG];rw[dJ,zA0] at bL;simpa using bL.2
 have hwl:(aK f).length≤20000:=by rw[dJ,zA0] at bL;simpa using bL.2
 have hol:∀j,(eD f j).length≤20000:=fun j=>zC2 (sk f j) hwl
 have e9:eD f (cj (aK f)).length=bM f:=by
  unfold eD bM;rw[zBl]
 have hcl:=hf.cuts;have hsuc:∀j (h:j<(cj (aK f)).length),eD f (j+1)=if (f.cuts.any fun c=>leaves c ((cj (aK f)).getD j default))=true then eD f j else eD f j++[(cj (aK f)).getD j default]:=fun j h=>vD f (by rw[bb h];exact zA1 h)
 obtain⟨O,hO⟩:∃O:Nat→List cB,eD f=O:=⟨_,rfl⟩
 rw[hO] at hol e9 hsuc;have hO0:O 0=[]:=by rw[←hO];rfl
 rw[←e9];generalize cj (aK f)=WV at *;refine PCall.body Tryz.func50 rfl rfl Tryz.ntmps50 rfl rfl ?_
 repeat' (first|refine qP ?_ (h:=fun hg=>by first|exact aa|exact pc h1|exact af|fail)|apply sqW|refine rgK fun U V=>?_|(refine aN V ?_;clear V U)|refine aB ?_)
 refine cdW rfl tI (fun hc=>absurd hc dCd) (fun hc=>?_)
 repeat' (first|refine qP ?_ (h:=fun hg=>by first|exact aa|exact pc h2|exact af|fail)|apply sqW|refine rgK fun U V=>?_|(refine aN V ?_;clear V U)|refine blK ?_|refine skW ?_)
 refine AWP.iQ (d:=5) (sz:=2) rfl ?_
 refine lpD (ι:=Nat) (fun k=>[(1,.ptr 0 0),(4,.sl 2 (WV.map bC) .no),(5,.sl 2 ((O k).map bC) (.own 1)),(6,.int k)]) (fun k=>[.var (aP f),.own 2 ((O k).map bC).length])
  (fun k=>k≤WV.length) (fun k=>WV.length - k) 2 (fun _=>rfl) 0 (nZl _) ⟨rfl,rfl,by rw[hO0];rfl,rfl,tI⟩ (by rw[hO0];rfl) (fun _ _=>rfl) (fun _ _=>rfl) ?_
 intro k hk;by_cases hlt:k<WV.length
 · obtain⟨v,hv⟩:∃v,WV.getD k default=v:=⟨_,rfl⟩
   have hs:=hsuc k hlt;rw[hv] at hs;have ho:=hol k;obtain⟨o,hoo⟩:∃o,O k=o:=⟨_,rfl⟩
   rw[hoo] at hs ho;rw[hoo]
   repeat' (first|refine qT ?_|apply sqW|refine rgK fun U V=>?_|(refine aN V ?_;clear V U)|refine cX ?_ ?_<;>intro hc<;>try simp only[dE] at hc|refine blK ?_|refine exW ?_|refine skW ?_|refine rtW ?_)
   all_goals (first|(exfalso;omega)|skip)
   refine lpD (ι:=Nat) (fun c=>[(1,.ptr 0 0),(4,.sl 2 (WV.map bC) .no),(5,.sl 2 (o.map bC) (.own 1)),(6,.int k),(7,.b ((f.cuts.take c).any fun c=>leaves c v)),(8,.int c)]) (fun _=>[.var (aP f),.own 2 (o.map bC).length])
    (fun c=>c≤f.cuts.length) (fun c=>f.cuts.length - c) 2 (fun _=>rfl) 0 (nZl _) ⟨rfl,rfl,rfl,rfl,rfl,rfl,tI⟩ rfl (fun _ _=>rfl) (fun _ _=>rfl) ?_
   intro c hc9;by_cases hct:c<f.cuts.length
   · obtain⟨C,hC⟩:∃C,f.cuts.getD c default=C:=⟨_,rfl⟩
     have hnx:=E5 (p:=fun c=>leaves c v) hct;rw[hC] at hnx;have hle:=ya C v
     repeat' (first|refine qP ?_ (h:=fun hg=>by first|exact iX bC WV ((k:Nat):Int) hv (hb:=oM)|exact aa|exact af)|apply sqW|refine rgK fun U V=>?_|(refine aN V ?_;clear V U)|refine cX ?_ ?_<;>intro hc<;>try simp only[dE] at hc|refine blK ?_|refine exW ?_|refine skW ?_|refine kD fun U V=>?_|(refine aqN (V _ ?_);clear V U)|refine aqQ rfl rfl (fun hg=>by first|exact iX aM f.cuts ((c:Nat):Int) hC (hb:=oM)|exact iX bC WV ((k:Nat):Int) hv (hb:=oM)|exact aa|exact pc hle|exact af|fail) (by exact rfl) ?_)
     all_goals (first|(exfalso;omega)|skip)
     exact⟨c+1,hct,oM,⟨rfl,rfl,rfl,rfl,by rw[hnx];rfl,rfl,tI⟩,rfl⟩
   · obtain rfl:c=f.cuts.length:=oM;rw[zBl];cases hany:f.cuts.any fun c=>leaves c v with
     | true =>
       rw[hany,if_pos rfl] at hs
       repeat' (first|refine qP ?_ (h:=fun hg=>by first|exact iX bC WV ((k:Nat):Int) hv (hb:=oM)|exact aa|exact pbS ab rfl rfl nds|exact af)|apply sqW|refine rgK fun U V=>?_|(refine aN V ?_;clear V U)|refine aoE (EStep.dH ab rfl rfl rfl dCd (Rd.w rfl tI) rfl (Rd.w rfl tI) (.sl rfl (by first|(intro x hx;rcases zA9.1 hx with rfl;rfl)|exact one_by8 _|exact dV _)) (lkG rfl) (lkG rfl) rfl rfl (by simp only[lLm,lLa,zAd,zAm];omega) (by simp only[lLm,lLa,zAd,zAm];omega) ?_)|refine cX ?_ ?_<;>intro hc<;>try simp only[dE] at hc|refine blK ?_|refine exW ?_|refine skW ?_|refine kD fun U V=>?_|refine aqQ rfl rfl (fun hg=>by first|exact iX bC WV ((k:Nat):Int) hv (hb:=oM)|exact aa|exact af) (by exact rfl) ?_)
       all_goals (first|(exact absurd hc dCd)|(exfalso;omega)|skip)
       exact⟨k+1,hlt,oM,⟨rfl,rfl,by rw[hs];rfl,rfl,tI⟩,by rw[hs];rfl⟩
     | false =>
       rw[hany,if_neg dCd] at hs
       repeat' (first|refine qP ?_ (h:=fun hg=>by first|exact iX bC WV ((k:Nat):Int) hv (hb:=oM)|exact aa|exact pbS ab rfl rfl nds|exact af)|apply sqW|refine rgK fun U V=>?_|(refine aN V ?_;clear V U)|refine aoE (EStep.dH ab rfl rfl rfl dCd (Rd.w rfl tI) rfl (Rd.w rfl tI) (.sl rfl (by first|(intro x hx;rcases zA9.1 hx with rfl;rfl)|exact one_by8 _|exact dV _)) (lkG rfl) (lkG rfl) rfl rfl (by simp only[lLm,lLa,zAd,zAm];omega) (by simp only[lLm,lLa,zAd,zAm];omega) ?_)|refine cX ?_ ?_<;>intro hc<;>try simp only[dE] at hc|refine blK ?_|refine exW ?_|refine skW ?_|refine kD fun U V=>?_|refine aqQ rfl rfl (fun hg=>by first|exact iX bC WV ((k:Nat):Int) hv (hb:=oM)|exact aa|exact af) (by exact rfl) ?_)
       all_goals (first|(exact absurd hc dCd)|(exfalso;omega)|skip)
       refine⟨k+1,hlt,oM,⟨rfl,rfl,?_,rfl,tI⟩,?_⟩
       · rw[hs,←Cu];rfl
       · rw[hs,←Cu,lLa];rfl
 · obtain rfl:k=WV.length:=oM
   repeat' (first|refine qT ?_|apply sqW|refine rgK fun U V=>?_|(refine aN V ?_;clear V U)|refine cX ?_ ?_<;>intro hc<;>try simp only[dE] at hc|refine blK ?_|refine exW ?_|refine skW ?_|refine rtW ?_)
   all_goals (first|(exfalso;omega)|skip)
   exact⟨.inr rfl,Ent.of rfl⟩
theorem wq (s:Score) (hs:s.Small) (hsc:bG s=true) (r:Room) (hf:FIn r.form) (bL:aW r.form=true) (m:Mom) (hd:dp m.pos=true) :
 PCall Tryz.prog 20 [.agg (bg s),.agg (bt r),.agg (bA m)] (.int (reason s r m)):=by
 have hbl:=hs.1;have dv:=BG s.bars m.bar oM;have hbi:=xX s.bars m.bar;have t1:=re m.pos;by_cases h0:cw s.bars m.bar<0
 · rw[show reason s r m=32 from vG h0];generalize cw s.bars m.bar=i at *;refine PCall.body Tryz.func20 rfl rfl Tryz.ntmps20 rfl rfl ?_
   repeat' (first|refine qP ?_ (h:=fun hg=>by first|exact aa|exact pc dv|exact af|fail)|apply sqW|refine rgK fun U V=>?_|(refine aN V ?_;clear V U)|refine aB ?_)
   refine cdW rfl tI (fun hc=>?_) (fun hc=>absurd hc (by simp;omega))
   repeat' (first|refine qS ?_|apply sqW|refine rgK fun U V=>?_|(refine aN V ?_;clear V U)|refine rtW ?_)
   exact⟨.inr rfl,Ent.of rfl⟩
 · obtain⟨i,hi⟩:∃i:Nat,cw s.bars m.bar=i:=⟨(cw s.bars m.bar).toNat,oM⟩
   have hil:i<s.bars.length:=oM;obtain⟨b1,b2,b3⟩:=vN hsc hil;have hun:=ru hd b1;have hre:reason s r m=if under m.pos (s.bars.getD i default).len=false then 3 else qj (force r.form ⟨i,m.pass⟩):=by
    unfold reason;rw[hi,if_neg oM,zAe]
   obtain⟨B,hB⟩:∃B,s.bars.getD i default=B:=⟨_,rfl⟩
   rw[hB] at hun hre;have t2:=re B.len;rw[hre];rw[hi] at dv;by_cases hu:cH m.pos<cH B.len
   · rw[decide_eq_true hu] at hun;rw[if_neg (by rw[hun];decide)];have u1:=yO r.form hf bL;have u2:=rz r.form hf bL;have hwl:(cj (aK r.form)).length≤20000:=by rw[sG];rw[dJ,zA0] at bL;simpa using bL.2
     have hvl:(bM r.form).length≤20000:=zC2 (by unfold bM;exact zDs _ _) hwl;have g1:=tP (bM r.form) ⟨i,m.pass⟩ oM;have g2:=tP (cj (aK r.form)) ⟨i,m.pass⟩ oM;unfold force;by_cases hv:(⟨i,m.pass⟩:cB)∈bM r.form
     · rw[if_pos hv];rw[decide_eq_true hv] at g1;refine PCall.body Tryz.func20 rfl rfl Tryz.ntmps20 rfl rfl ?_
       repeat' (first|refine qP ?_ (h:=fun hg=>by first|exact aa|exact pc dv|exact af|fail)|apply sqW|refine rgK fun U V=>?_|(refine aN V ?_;clear V U)|refine aB ?_)
       refine cdW rfl tI (fun hc=>absurd hc sMp) (fun hc=>?_)
       repeat' (first|refine qP ?_ (h:=fun hg=>by first|exact aa|exact pc u1|exact pc g1|exact pbD ab rfl rfl nds|exact af|fail)|apply sqW|refine rgK fun U V=>?_|(refine aN V ?_;clear V U)|refine aS ?_|refine aA ?_|refine cX ?_ ?_<;>intro hc<;>try simp only[dE] at hc|refine skW ?_|refine rtW ?_|refine kD fun U V=>?_|(refine aqN (V _ ?_);clear V U)|refine aqQ rfl rfl (fun hg=>by first|exact iX cS s.bars ((i:Nat):Int) hB (hb:=oM)|exact aa|exact pc t1|exact pc t2|exact af|fail) (by exact rfl) ?_)
       all_goals (first|(exact absurd hc dCd)|(exfalso;simp at hc;done)|(exfalso;omega)|(exfalso;simp at hc;omega)|skip)
       exact⟨.inr rfl,Ent.of rfl⟩
     · rw[if_neg hv];rw[decide_eq_false hv] at g1;by_cases hw:(⟨i,m.pass⟩:cB)∈cj (aK r.form)
       · rw[if_pos hw];rw[decide_eq_true hw] at g2;refine PCall.body Tryz.func20 rfl rfl Tryz.ntmps20 rfl rfl ?_
         repeat' (first|refine qP ?_ (h:=fun hg=>by first|exact aa|exact pc dv|exact af|fail)|apply sqW|refine rgK fun U V=>?_|(refine aN V ?_;clear V U)|refine aB ?_)
         refine cdW rfl tI (fun hc=>absurd hc sMp) (fun hc=>?_)
         repeat' (first|refine qP ?_ (h:=fun hg=>by first|exact aa|exact pc u1|exact pc u2|exact pc g1|exact pc g2|exact pbD ab rfl rfl nds|exact af|fail)|apply sqW|refine rgK fun U V=>?_|(refine aN V ?_;clear V U)|refine aS ?_|refine aA ?_|refine cX ?_ ?_<;>intro hc<;>try simp only[dE] at hc|refine skW ?_|refine rtW ?_|refine kD fun U V=>?_|(refine aqN (V _ ?_);clear V U)|refine aqQ rfl rfl (fun hg=>by first|exact iX cS s.bars ((i:Nat):Int) hB (hb:=oM)|exact aa|exact pc t1|exact pc t2|exact pc u1|exact pc u2|exact pc g1|exact pc g2|exact af|fail) (by exact rfl) ?_)
         all_goals (first|(exact absurd hc dCd)|(exfalso;simp at hc;done)|(exfalso;omega)|(exfalso;simp at hc;omega)|skip)
         exact⟨.inr rfl,Ent.of rfl⟩
       · rw[if_neg hw];rw[decide_eq_false hw] at g2;refine PCall.body Tryz.func20 rfl rfl Tryz.ntmps20 rfl rfl ?_
         repeat' (first|refine qP ?_ (h:=fun hg=>by first|exact aa|exact pc dv|exact af|fail)|apply sqW|refine rgK fun U V=>?_|(refine aN V ?_;clear V U)|refine aB ?_)
         refine cdW rfl tI (fun hc=>absurd hc sMp) (fun hc=>?_)
         repeat' (first|refine qP ?_ (h:=fun hg=>by first|exact aa|exact pc u1|exact pc u2|exact pc g1|exact pc g2|exact pbD ab rfl rfl nds|exact af|fail)|apply sqW|refine rgK fun U V=>?_|(refine aN V ?_;clear V U)|refine aS ?_|refine aA ?_|refine cX ?_ ?_<;>intro hc<;>try simp only[dE] at hc|refine skW ?_|refine rtW ?_|refine kD fun U V=>?_|(refine aqN (V _ ?_);clear V U)|refine aqQ rfl rfl (fun hg=>by first|exact iX cS s.bars ((i:Nat):Int) hB (hb:=oM)|exact aa|exact pc t1|exact pc t2|exact pc u1|exact pc u2|exact pc g1|exact pc g2|exact af|fail) (by exact rfl) ?_)
         all_goals (first|(exact absurd hc dCd)|(exfalso;simp at hc;done)|(exfalso;omega)|(exfalso;simp at hc;omega)|skip)
         exact⟨.inr rfl,Ent.of rfl⟩
   · rw[decide_eq_false hu] at hun;rw[if_pos hun];refine PCall.body Tryz.func20 rfl rfl Tryz.ntmps20 rfl rfl ?_
     repeat' (first|refine qP ?_ (h:=fun hg=>by first|exact aa|exact pc dv|exact af|fail)|apply sqW|refine rgK fun U V=>?_|(refine aN V ?_;clear V U)|refine aB ?_)
     refine cdW rfl tI (fun hc=>absurd hc sMp) (fun hc=>?_)
     repeat' (first|refine qS ?_|apply sqW|refine rgK fun U V=>?_|(refine aN V ?_;clear V U)|refine cX ?_ ?_<;>intro hc<;>try simp only[dE] at hc|refine skW ?_|refine rtW ?_|refine kD fun U V=>?_|(refine aqN (V _ ?_);clear V U)|refine aqQ rfl rfl (fun hg=>by first|exact iX cS s.bars ((i:Nat):Int) hB (hb:=oM)|exact aa|exact pc t1|exact pc t2|exact af|fail) (by exact rfl) ?_)
     all_goals (first|(exact absurd hc dCd)|(exfalso;simp at hc;done)|(exfalso;omega)|(exfalso;simp at hc;omega)|skip)
     exact⟨.inr rfl,Ent.of rfl⟩
end Go.Proofs.YthiaimakjmhegaaGreatDoor.Pl
