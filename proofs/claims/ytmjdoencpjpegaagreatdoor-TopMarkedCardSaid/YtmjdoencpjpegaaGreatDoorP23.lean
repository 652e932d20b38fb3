/- Parts of the proof. No statement is proved here. -/
import Derived.Test.YtmjdoencpjpegaaGreatDoorP18
import Derived.Test.YtmjdoencpjpegaaGreatDoorP19
import Derived.Test.YtmjdoencpjpegaaGreatDoorP20
set_option linter.unusedVariables false
set_option linter.unusedSimpArgs false
set_option maxHeartbeats 16000000
set_option maxRecDepth 20000
namespace Go.Pl
open Go.Ab
theorem HL {f:aR} {r:cL} (h:r∈f.aC) {M:Int} (hr:∀r∈f.aC,r.from_<r.aI∧r.times≤9) (all:Bool):(yS f r all).length≤9 * (r.aI - r.from_).toNat:=by
 obtain⟨h1,h2⟩:=hr r h;unfold yS;rw[List.length_flatMap];have hp:∀p,(sj f r p).length≤(r.aI - r.from_).toNat:=fun p=>by
  unfold sj;refine zBu (zBm _ _) ?_;unfold l8;simp
 have hs:∀l:List Int,(l.map fun p=>(sj f r p).length).sum≤l.length * (r.aI - r.from_).toNat:=fun l=>by
  induction l with
  |nil=>simp
  | cons a l ih =>
    rw[zBd,List.sum_cons,zAc,Nat.succ_mul];have:=hp a;omega
 refine zBu (hs _) (zB6 _ ?_);unfold l8;rw[lLm,List.length_range];split
 · omega
 · rcases Int.lt_or_le r.times 1 with h3|h3<;>omega
theorem rD {f:aR} (hr:∀r∈f.aC,r.from_<r.aI∧r.times≤9) {M:Int} (hM:∀r∈f.aC,r.aI≤M) (u:Int) (hu:u≤M) (all:Bool):∀(k:Nat) (bar:Int),(cV f u all k bar).length≤9 * (M - bar).toNat
 |0,_=>nZl _
 | k + 1, bar => by
   unfold cV;by_cases hb:bar<u
   · rw[if_pos hb];cases hs:fS f.aC bar with
     | none =>
       simp only;have:=rD hr hM u hu all k (bar+1);rw[zAc];omega
     | some r =>
       simp only;have hm:=zBy hs;have he:r.from_=bar:=by
        have:=zD2 hs;simpa using this
       have h1:=rD hr hM u hu all k r.aI;have h2:=HL hm hr all (M:=M);have h3:=hM r hm;have h4:=(hr r hm).1;rw[lLa];omega
   · rw[if_neg hb];exact nZl _
theorem Dv {f:aR} (hr:∀r∈f.aC,r.from_<r.aI∧r.times≤9∧r.aI≤4000) (hb:f.bars≤4000) (ha:f.jump.at_≤4000) (ht:0≤f.jump.to) (hf:f.jump.dc≤4000):(br f).length≤72000:=by
 have h1:∀a u all,0≤a→u≤4000→(ck f a u all).length≤36000:=fun a u all h0 hu=>by
  have:=rD (M:=4000) (fun r h=>⟨(hr r h).1,(hr r h).2.1⟩) (fun r h=>(hr r h).2.2) u hu all (u - a).toNat a;unfold ck;omega
 unfold br;split
 · rw[lLa];have:=h1 0 f.bars true oM hb;have:=h1 f.jump.to f.jump.dc false ht hf;omega
 · rw[lLa];have:=h1 0 f.jump.at_ true oM ha;have:=h1 f.jump.to f.jump.dc false ht hf;omega
def p6 (f:aR):Bool :=
 decide (1≤f.bars)&&decide (f.bars≤4000)&&(eG f.bars 0 f.aC&&decide (f.aC.length≤100))&&(hK f.aC 0 f.ends&&decide (f.ends.length≤100))&&jx f&&(jy f.bars f.cuts&&decide (f.cuts.length≤100))
theorem rE (f:aR):bB f=(p6 f&&decide ((br f).length≤20000)):=rfl
theorem KW {f:aR} (h:jx f=true) (hb:f.bars≤4000):0≤f.jump.at_∧0≤f.jump.to∧f.jump.at_≤4000∧f.jump.to≤4000∧f.jump.dc≤4000:=by
 unfold jx at h;rw[zBn] at h;rcases h with h|h
 · rw[dEt] at h;rw[h];decide
 · simp only[zA0,zB1,zAl,dEf] at h;obtain⟨⟨⟨⟨⟨⟨h1,h2⟩,h3⟩,h4⟩,h5⟩,h6⟩,_⟩:=h;omega
end Go.Pl
namespace Go.Proofs.YtmjdoencpjpegaaGreatDoor.Pl
open Go.Ab Go.Pl
attribute [local irreducible] AWP AOps EStep AQ PStep PRun PCall TCall VCall
structure sA (f:aR):Prop where
 ok:FOk f
 j:0≤f.jump.at_∧0≤f.jump.to∧f.jump.at_≤4000∧f.jump.to≤4000∧f.jump.dc≤4000
 len:(br f).length≤1000000
theorem sA.of {f:aR} (h:p6 f=true):sA f:=by
 unfold p6 at h;simp only[zA0,dEt] at h;obtain⟨⟨⟨⟨⟨h1,h2⟩,h3,_⟩,_⟩,h5⟩,_⟩:=h;have hr:=fun r hm=>yT h3 r hm
 have hj:=KW h5 h2;refine⟨⟨h2,fun r hm=>?_⟩,hj,zBu (Dv (fun r hm=>?_) h2 hj.2.2.1 hj.2.1 hj.2.2.2.2) dCd⟩
 · have:=hr r hm;omega
 · have:=hr r hm;omega
theorem rF (f:aR) (hf:FIn f) (hg:sA f):PCall Tryz.prog 129 [.agg (bl f)] (.b (decide ((br f).length≤20000))):=by
 have hv:=A2 f;have hlen:(yV (k9 (br f))).length=(br f).length:=by unfold k9;simp
 refine PCall.bO ab Tryz.func129 rfl rfl Tryz.ntmps129 rfl ?_
 repeat' (first|refine qP ?_ (h:=fun hg=>by first|exact ae|exact pc hv|exact ah)|apply sqW|refine rgK fun U V=>?_|(refine aN V ?_;clear V U)|refine aB ?_|refine aS ?_|refine aA ?_|refine blK ?_)
 refine AWP.gU (yV (k9 (br f))) [(2,.ptr 1 0),(3,.ptr 2 0)] (fun j=>[.var (bl f),.var [.b false],.var [.int j]]) (fun j=>j≤20000) (fun j x s=>x=.ret∧s=[.var (bl f),.var [.b false],.var [.int (j+1:Nat)]]∧20000≤j) (fun rc=>A3 f hf hg.ok hg.j hg.len _ _) (nZl _) rfl tI ?_ ?_ rfl ⟨rfl,rfl,tI⟩ rfl rfl (fun j hj=>⟨rfl,rfl⟩) ?_ ?_ ?_ ?_
 · intro x hx;obtain⟨n,_,rfl⟩:=zAf.1 hx;rfl
 · intro x hx;obtain⟨n,_,rfl⟩:=zAf.1 hx;rfl
 · rintro j x s ⟨_,rfl,_⟩;exact⟨rfl,rfl⟩
 · intro j x hx hp;obtain⟨v,rfl⟩:∃v:om,x=[.agg (pK v)]:=by
    rw[zA3,zA5] at hx;obtain⟨v,_,h2⟩:=hx;exact⟨v,h2.symm⟩
   have e1:(j:Int)+1=((j+1:Nat):Int):=oM
   repeat' (first|refine skW ?_)
   refine⟨rfl,?_⟩
   repeat' (first|refine qS ?_|apply sqW|refine rgK fun U V=>?_|(refine aN V ?_;clear V U)|refine aS ?_|refine cX ?_ ?_<;>intro hc<;>try simp only[dE] at hc|refine blK ?_|refine skW ?_|refine rtW ?_)
   · refine⟨rfl,?_,oM⟩;show[_,_,aF.var [AV.int ((j:Int)+1)]]=_;rw[e1]
   · refine⟨?_,oM⟩;show[_,_,aF.var [AV.int ((j:Int)+1)]]=_;rw[e1]
 · intro hp;rw[hlen] at hp
   repeat' (first|apply sqW|refine rgK fun U V=>?_|(refine aN V ?_;clear V U)|refine aS ?_|refine rtW ?_)
   exact⟨.inr rfl,_,rfl,Ent.b (decide_eq_true hp).symm⟩
 · rintro j x s hj ⟨rfl,rfl,h⟩;rw[hlen] at hj;exact⟨.inr rfl,_,rfl,Ent.b (decide_eq_false oM).symm⟩
theorem mz (f:aR) (hf:FIn f):PCall Tryz.prog 96 [.agg (bl f)] (.b (bB f)):=by
 have h1:=uI f hf;have h2:=uJ f hf;have h3:=AR f hf;have h4:=zm f hf;by_cases hA:p6 f=true
 · have h5:=rF f hf (sA.of hA);refine PCall.body Tryz.func96 rfl rfl Tryz.ntmps96 rfl rfl ?_
   repeat' (first|refine qP ?_ (h:=fun hg=>by first|exact ae|exact pbD ab rfl rfl nds|exact pc h1|exact pc h2|exact pc h3|exact pc h4|exact pc h5|exact ah)|apply sqW|refine rgK fun U V=>?_|(refine aN V ?_;clear V U)|refine aB ?_|refine aS ?_|refine aA ?_|refine rtW ?_)
   exact⟨.inr rfl,Ent.b rfl⟩
 · have hn:¬(decide (f.bars≥1)&&decide (f.bars≤4000)&&(eG f.bars 0 f.aC&&decide (f.aC.length≤100))&&(hK f.aC 0 f.ends&&decide (f.ends.length≤100))&&jx f&&(jy f.bars f.cuts&&decide (f.cuts.length≤100)))=true:=hA;refine PCall.body Tryz.func96 rfl rfl Tryz.ntmps96 rfl rfl ?_
   repeat' (first|refine qP ?_ (h:=fun hg=>by first|exact ae|exact pbD ab rfl rfl nds|exact pc h1|exact pc h2|exact pc h3|exact pc h4|exact(absurd (eq_of_beq hg) hn:PRun _ _ _ _ (.b false))|exact ah|fail)|apply sqW|refine rgK fun U V=>?_|(refine aN V ?_;clear V U)|refine aB ?_|refine aS ?_|refine aA ?_|refine rtW ?_)
   refine⟨.inr rfl,Ent.b ?_⟩;rw[rE,show p6 f=false by simpa using hA];exact Bool.and_false _
def iV (f:aR) (j:Nat):List om:=((k9 (br f)).take j).filter fun v=>!(f.cuts.any fun c=>leaves c v)
instance:Inhabited om:=⟨⟨0,0⟩⟩
end Go.Proofs.YtmjdoencpjpegaaGreatDoor.Pl
namespace Go.Proofs.YtmjdoencpjpegaaGreatDoor.Mk
open Go.Ab Go.Jo
attribute [local irreducible] AWP AOps EStep AQ PStep PRun PCall TCall VCall
abbrev evM (m:Jo.Mark):AV:=.agg (aJ m)
abbrev kinds:List Int:=[1,2,3,4,5]
def dP (f:Int→Int→Option Jo.Mark) (ns:List ag):List Jo.Mark:=ns.flatMap fun n=>kinds.filterMap (f n.id)
def mW (s:Score) (l:List Jo.Mark) (p:Part) (r:Rdr):Int→Int→Option Jo.Mark:=fun n k=>jL (mw s.version n k p.aV r) l
def jh (s:Score) (id:Int):Int:=aX (fun x:Part=>x.id==id) s.parts
def iW (s:Score) (l:List Jo.Mark) (r:Rdr):List Jo.Mark×Int :=
 if (aQ s&&bP l)&&cu r then
  (if jh s r.part≥0 then
   (if (s.parts.getD (jh s r.part).toNat default).jg<r.cY then ([],22) else (dP (mW s l (s.parts.getD (jh s r.part).toNat default) r) (aL s.notes (s.parts.getD (jh s r.part).toNat default)),0))
   else ([],22))
 else ([],1)
abbrev tupM (r:List Jo.Mark×Int):AV:=.tup [.sl 10 (r.1.map aJ) .no,.int r.2]
theorem zN {r:Rdr} (h:cu r=true):inB r.part 1 1000000=true:=by
 unfold cu cg at h;simp only[zA0] at h;exact h.1.1
theorem Fx {s:Score} {r:Rdr} (hok:aQ s=true) (hr:cu r=true) {k:Nat} (e:jh s r.part=k):nO s r.part=((k:Int),true,0):=by
 unfold jh at e;unfold nO idR uF;rw[hok,zN hr,e];simp[Go.Proofs.YtmjdoencpjpegaaGreatDoor.jl]
theorem HM {s:Score} {r:Rdr} (hok:aQ s=true) (hr:cu r=true) (h:¬jh s r.part≥0):nO s r.part=(0,false,0):=by
 unfold jh at h;unfold nO idR uF;rw[hok,zN hr];simp[Go.Proofs.YtmjdoencpjpegaaGreatDoor.jl];omega
theorem qz {α β:Type} (f:α→Option β) (l:List α):(l.filterMap f).length≤l.length:=zD8 f l
theorem ve (f:Int→Int→Option Jo.Mark):∀ns:List ag,(dP f ns).length≤5 * ns.length
 |[]=>by simp[dP]
 | n :: t => by
   have ih:=ve f t;have h1:=qz (f n.id) kinds;unfold dP at ih ⊢;rw[List.flatMap_cons,lLa,zAc];have h2:kinds.length=5:=rfl;omega
theorem Ba (f:Int→Int→Option Jo.Mark) {ns:List ag} {j:Nat} (h:j<ns.length):dP f (ns.take (j+1))=dP f (ns.take j)++kinds.filterMap (f (ns.getD j default).id):=by
 rw[ry h];unfold dP;rw[List.flatMap_append];simp
theorem HN {kd:Nat} (h:kd<5) (g:Int→Option Jo.Mark):(kinds.take (kd+1)).filterMap g=(kinds.take kd).filterMap g++(match g ((kd:Int)+1) with|none=>[]|some m=>[m]):=by
 have h5:kd=0∨kd=1∨kd=2∨kd=3∨kd=4:=oM;rcases h5 with rfl|rfl|rfl|rfl|rfl
 · show List.filterMap g [1]=_++(match g 1 with|none=>[]|some m=>[m]);cases h:g 1<;>simp[h]
 · show List.filterMap g ([1]++[2])=List.filterMap g [1]++(match g 2 with|none=>[]|some m=>[m]);rw[zCl];congr 1;cases h:g 2<;>simp[h]
 · show List.filterMap g ([1,2]++[3])=List.filterMap g [1,2]++(match g 3 with|none=>[]|some m=>[m]);rw[zCl];congr 1;cases h:g 3<;>simp[h]
 · show List.filterMap g ([1,2,3]++[4])=List.filterMap g [1,2,3]++(match g 4 with|none=>[]|some m=>[m]);rw[zCl];congr 1;cases h:g 4<;>simp[h]
 · show List.filterMap g ([1,2,3,4]++[5])=List.filterMap g [1,2,3,4]++(match g 5 with|none=>[]|some m=>[m]);rw[zCl];congr 1;cases h:g 5<;>simp[h]
theorem p7 (m:Nat) (al:List ((Int×Int)×Jo.Mark)):ak m (.map (Go.Ab.aD ekP evM al))=true:=by
 simp[ak,Go.Ab.aD,aG,aJ]
theorem vg {l:List Jo.Mark} (h:bP l=true) {k:Nat} (hk:k<l.length):bc (l.getD k default)=true:=by
 unfold bP at h;simp only[zA0,zA6] at h;exact h.1.1 _ (by rw[aU hk];exact lGm hk)
theorem Dw (s:Score) (hs:s.Small) (hn:s.notes.length≤1000000) (l:List Jo.Mark) (hl:l.length≤1000000000) (ht:lu l) (r:Rdr) :
 PCall Tryz.prog 45 [.agg (encS s),.sl 10 (l.map aJ) .no,.agg (cQ r)] (tupM (iW s l r)):=by
 have hv:=dy s hs;have hm:=xG l oM ht;have hr:=iQ r;have hp:=CU s hs r.part;have hpl:=uS s hs r.part;obtain⟨h1,h2,h3⟩:=hs;by_cases hgood:((aQ s&&bP l)&&cu r)=true
 · have Fy:=hgood;simp only[zA0] at Fy;obtain⟨⟨g1,g2⟩,g3⟩:=Fy;rw[g1] at hv;rw[g2] at hm;rw[g3] at hr;by_cases hf:jh s r.part≥0
   · obtain⟨k,e1,e2,e3,e4⟩:=eh hf;have e1':jh s r.part=k:=e1;rw[Fx g1 g3 e1'] at hp;have er:ia s r.part=(aL s.notes (s.parts.getD k default),0):=by unfold ia;rw[if_pos g1,if_pos (show aX (fun x:Part=>x.id==r.part) s.parts≥0 from hf),e1];rfl
     rw[er] at hpl;have hpn:=uR s.notes (s.parts.getD k default);by_cases hdk:(s.parts.getD k default).jg<r.cY
     · have es:iW s l r=([],22):=by
        unfold iW;rw[if_pos hgood,if_pos hf,e1',if_pos (by exact hdk)]
       rw[es];obtain⟨p,hP⟩:∃p,s.parts.getD k default=p:=⟨_,rfl⟩
       rw[hP] at hdk;refine PCall.body Tryz.func45 rfl rfl Tryz.ntmps45 rfl rfl ?_
       repeat' (first|refine qP ?_ (h:=fun hg=>by first|exact ae|exact pc hv|exact pc hm|exact pc hr|exact pc hp|fail)|apply sqW|refine rgK fun U V=>?_|(refine aN V ?_;clear V U)|refine aB ?_|refine cX ?_ ?_<;>intro hc<;>try simp only[dE] at hc|refine skW ?_|refine rtW ?_|refine kD fun U V=>?_|(refine aqN (V _ ?_);clear V U)|refine aqQ rfl rfl (fun hg=>by first|exact iX bt s.parts ((k:Nat):Int) hP (hb:=oM)|exact ae|fail) (by exact rfl) ?_)
       · exfalso;simp at hc
       · exact⟨.inr rfl,Ent.fL Ent.nil (Ent.cB _)⟩
       · exfalso;simp at hc;omega
     · have es:iW s l r=(dP (mW s l (s.parts.getD k default) r) (aL s.notes (s.parts.getD k default)),0):=by
        unfold iW;rw[if_pos hgood,if_pos hf,e1',if_neg (by exact hdk)];rfl
       rw[es];clear es er;obtain⟨p,hP⟩:∃p,s.parts.getD k default=p:=⟨_,rfl⟩
       rw[hP] at hpl hpn hdk ⊢;obtain⟨ns,hns⟩:∃ns,aL s.notes p=ns:=⟨_,rfl⟩
       rw[hns] at hpl hpn ⊢;refine PCall.body Tryz.func45 rfl rfl Tryz.ntmps45 rfl rfl ?_
       repeat' (first|refine qP ?_ (h:=fun hg=>by first|exact ae|exact pc hv|exact pc hm|exact pc hr|exact pc hp|exact pc hpl|exact pc dz|exact ah)|apply sqW|refine rgK fun U V=>?_|(refine aN V ?_;clear V U)|refine aB ?_|refine aoE (EStep.cz rfl rfl rfl rfl ?_)|refine cX ?_ ?_<;>intro hc<;>try simp only[dE] at hc|refine blK ?_|refine skW ?_|refine rtW ?_|refine kD fun U V=>?_|(refine aqN (V _ ?_);clear V U)|refine aqQ rfl rfl (fun hg=>by first|exact iX bt s.parts ((k:Nat):Int) hP (hb:=oM)|exact ae|fail) (by exact rfl) ?_)
       · exfalso;simp at hc
       · exfalso;simp at hc;omega
       · exfalso;simp at hc
       clear hv hm hr hp hpl
       refine lpD (ι:=Nat) (fun j=>[(1,.sl 10 (l.map aJ) .no),(3,.ptr 0 0),(5,.ptr 1 0),(8,.int k),(11,.sl 12 (ns.map ar) .no),(12,.map 2),(13,.imap (Go.Ab.aD ekI fk [(1,1),(2,2),(3,3),(4,4)])),(75,.sl 10 (l.map aJ) .no),(76,.int l.length),(77,.int j)])
        (fun j=>[.var (encS s),.var (cQ r),.map (Go.Ab.aD ekP evM (lV s.version p.aV r (l.take j)))])
        (fun j=>j≤l.length) (fun j=>l.length - j) 3 (fun _=>rfl) 0 (nZl _) ⟨rfl,rfl,rfl,rfl,rfl,rfl,rfl,rfl,rfl,rfl,tI⟩ rfl (fun _ _=>rfl) (fun j _=>by simp only[zAq,zAu,zC2,zA0];exact⟨rfl,rfl,p7 _ _⟩) ?_
       intro j hj;by_cases hjl:j<l.length
       · have hmk:=vg g2 hjl;have hst:=A5 s.version p.aV r (l.take j) (l.getD j default);rw[←ry hjl] at hst;obtain⟨m,hm⟩:∃m,l.getD j default=m:=⟨_,rfl⟩
         rw[hm] at hst hmk;obtain⟨al,hal⟩:∃al,lV s.version p.aV r (l.take j)=al:=⟨_,rfl⟩
         rw[hal] at hst ⊢;have hcn:=sV m ((lk al (m.note,m.kind)).getD noMark);clear hpn;rcases rC hmk with hly|hly|hly|hly
         · have hlk:lk [((1:Int),(1:Nat)),(2,2),(3,3),(4,4)] m.bn=some 1:=by rw[hly];rfl
           have hfo:forM m p.aV r=(m.who==r):=by unfold forM;rw[hly];rfl
           have v3:=w7 m.who p.aV r;rw[←hfo] at v3;clear hfo hmk
           repeat' (first|refine qP ?_ (h:=fun hg=>by first|exact iX aJ l ((j:Nat):Int) hm (hb:=oM)|exact ae|exact PRun.gL ab rfl rfl nds|exact PRun.lookup (ek:=ekP) (ev:=evM) (zv:=noMark) (key:=(m.note,m.kind)) lL (lkG rfl) (lkG rfl) rfl rfl (Rd.w rfl nd) (Or.inr ⟨_,rfl,rfl⟩) (Rd.w rfl nd) rfl|exact pc hcn|exact ah)|apply sqW|refine rgK fun U V=>?_|(refine aN V ?_;clear V U)|refine aS ?_|refine aA ?_|refine aoE (EStep.dm (ek:=ekP) (ev:=evM) (key:=(m.note,m.kind)) (v:=m) lL (lkG rfl) rfl rfl rfl (Rd.w rfl tI) rfl (Rd.w rfl tI) rfl (Rd.w rfl tI) ?_)|refine cX ?_ ?_<;>intro hc<;>try simp only[dE] at hc|refine blK ?_|refine exW ?_|refine skW ?_|refine kD fun U V=>?_|(refine aqN (V _ ?_);clear V U)|refine aqQ rfl rfl (fun hg=>by first|exact PRun.dv (ek:=ekI) (ev:=fk) (zv:=0) hlk (ay (lkG rfl)) (lkG rfl) (lkG rfl) rfl rfl (Rd.w rfl nd) (Or.inl rfl) (Rd.w rfl nd) rfl|exact iX bt s.parts ((k:Nat):Int) hP (hb:=oM)|exact ae|exact pc v3|fail) (by exact rfl) ?_)
           all_goals (first|(exfalso;omega)|skip)
           · refine⟨j+1,oM,oM,⟨rfl,rfl,rfl,rfl,rfl,rfl,rfl,rfl,rfl,rfl,tI⟩,?_⟩;rw[hst];unfold eJ;rw[if_pos (by exact hc)];rfl
           · rename_i h1;refine⟨j+1,oM,oM,⟨rfl,rfl,rfl,rfl,rfl,rfl,rfl,rfl,rfl,rfl,tI⟩,?_⟩;rw[hst];unfold eJ;rw[if_neg (by rw[show(m.version != s.version||!forM m p.aV r)=false from h1];decide),if_pos (by exact hc)];rfl
           · rename_i h1;refine⟨j+1,oM,oM,⟨rfl,rfl,rfl,rfl,rfl,rfl,rfl,rfl,rfl,rfl,tI⟩,?_⟩;rw[hst];unfold eJ;rw[if_neg (by rw[show(m.version != s.version||!forM m p.aV r)=false from h1];decide),if_neg (by rw[show(!(lk al (m.note,m.kind)).isSome||cnt m ((lk al (m.note,m.kind)).getD noMark))=false from hc];decide)];rfl
         · have hlk:lk [((1:Int),(1:Nat)),(2,2),(3,3),(4,4)] m.bn=some 2:=by rw[hly];rfl
           have hfo:forM m p.aV r=(m.who.part==r.part&&m.who.cY==r.cY):=by unfold forM;rw[hly];rfl
           have v3:=w8 m.who p.aV r;rw[←hfo] at v3;clear hfo hmk
           repeat' (first|refine qP ?_ (h:=fun hg=>by first|exact iX aJ l ((j:Nat):Int) hm (hb:=oM)|exact ae|exact PRun.gL ab rfl rfl nds|exact PRun.lookup (ek:=ekP) (ev:=evM) (zv:=noMark) (key:=(m.note,m.kind)) lL (lkG rfl) (lkG rfl) rfl rfl (Rd.w rfl nd) (Or.inr ⟨_,rfl,rfl⟩) (Rd.w rfl nd) rfl|exact pc hcn|exact ah)|apply sqW|refine rgK fun U V=>?_|(refine aN V ?_;clear V U)|refine aS ?_|refine aA ?_|refine aoE (EStep.dm (ek:=ekP) (ev:=evM) (key:=(m.note,m.kind)) (v:=m) lL (lkG rfl) rfl rfl rfl (Rd.w rfl tI) rfl (Rd.w rfl tI) rfl (Rd.w rfl tI) ?_)|refine cX ?_ ?_<;>intro hc<;>try simp only[dE] at hc|refine blK ?_|refine exW ?_|refine skW ?_|refine kD fun U V=>?_|(refine aqN (V _ ?_);clear V U)|refine aqQ rfl rfl (fun hg=>by first|exact PRun.dv (ek:=ekI) (ev:=fk) (zv:=0) hlk (ay (lkG rfl)) (lkG rfl) (lkG rfl) rfl rfl (Rd.w rfl nd) (Or.inl rfl) (Rd.w rfl nd) rfl|exact iX bt s.parts ((k:Nat):Int) hP (hb:=oM)|exact ae|exact pc v3|fail) (by exact rfl) ?_)
           all_goals (first|(exfalso;omega)|skip)
           · refine⟨j+1,oM,oM,⟨rfl,rfl,rfl,rfl,rfl,rfl,rfl,rfl,rfl,rfl,tI⟩,?_⟩;rw[hst];unfold eJ;rw[if_pos (by exact hc)];rfl
           · rename_i h1;refine⟨j+1,oM,oM,⟨rfl,rfl,rfl,rfl,rfl,rfl,rfl,rfl,rfl,rfl,tI⟩,?_⟩;rw[hst];unfold eJ;rw[if_neg (by rw[show(m.version != s.version||!forM m p.aV r)=false from h1];decide),if_pos (by exact hc)];rfl
           · rename_i h1;refine⟨j+1,oM,oM,⟨rfl,rfl,rfl,rfl,rfl,rfl,rfl,rfl,rfl,rfl,tI⟩,?_⟩;rw[hst];unfold eJ;rw[if_neg (by rw[show(m.version != s.version||!forM m p.aV r)=false from h1];decide),if_neg (by rw[show(!(lk al (m.note,m.kind)).isSome||cnt m ((lk al (m.note,m.kind)).getD noMark))=false from hc];decide)];rfl
         · have hlk:lk [((1:Int),(1:Nat)),(2,2),(3,3),(4,4)] m.bn=some 3:=by rw[hly];rfl
           have hfo:forM m p.aV r=(m.who.part==p.aV):=by unfold forM;rw[hly];rfl
           have v3:=w9 m.who p.aV r;rw[←hfo] at v3;clear hfo hmk
           repeat' (first|refine qP ?_ (h:=fun hg=>by first|exact iX aJ l ((j:Nat):Int) hm (hb:=oM)|exact ae|exact PRun.gL ab rfl rfl nds|exact PRun.lookup (ek:=ekP) (ev:=evM) (zv:=noMark) (key:=(m.note,m.kind)) lL (lkG rfl) (lkG rfl) rfl rfl (Rd.w rfl nd) (Or.inr ⟨_,rfl,rfl⟩) (Rd.w rfl nd) rfl|exact pc hcn|exact ah)|apply sqW|refine rgK fun U V=>?_|(refine aN V ?_;clear V U)|refine aS ?_|refine aA ?_|refine aoE (EStep.dm (ek:=ekP) (ev:=evM) (key:=(m.note,m.kind)) (v:=m) lL (lkG rfl) rfl rfl rfl (Rd.w rfl tI) rfl (Rd.w rfl tI) rfl (Rd.w rfl tI) ?_)|refine cX ?_ ?_<;>intro hc<;>try simp only[dE] at hc|refine blK ?_|refine exW ?_|refine skW ?_|refine kD fun U V=>?_|(refine aqN (V _ ?_);clear V U)|refine aqQ rfl rfl (fun hg=>by first|exact PRun.dv (ek:=ekI) (ev:=fk) (zv:=0) hlk (ay (lkG rfl)) (lkG rfl) (lkG rfl) rfl rfl (Rd.w rfl nd) (Or.inl rfl) (Rd.w rfl nd) rfl|exact iX bt s.parts ((k:Nat):Int) hP (hb:=oM)|exact ae|exact pc v3|fail) (by exact rfl) ?_)
           all_goals (first|(exfalso;omega)|skip)
           · refine⟨j+1,oM,oM,⟨rfl,rfl,rfl,rfl,rfl,rfl,rfl,rfl,rfl,rfl,tI⟩,?_⟩;rw[hst];unfold eJ;rw[if_pos (by exact hc)];rfl
           · rename_i h1;refine⟨j+1,oM,oM,⟨rfl,rfl,rfl,rfl,rfl,rfl,rfl,rfl,rfl,rfl,tI⟩,?_⟩;rw[hst];unfold eJ;rw[if_neg (by rw[show(m.version != s.version||!forM m p.aV r)=false from h1];decide),if_pos (by exact hc)];rfl
           · rename_i h1;refine⟨j+1,oM,oM,⟨rfl,rfl,rfl,rfl,rfl,rfl,rfl,rfl,rfl,rfl,tI⟩,?_⟩;rw[hst];unfold eJ;rw[if_neg (by rw[show(m.version != s.version||!forM m p.aV r)=false from h1];decide),if_neg (by rw[show(!(lk al (m.note,m.kind)).isSome||cnt m ((lk al (m.note,m.kind)).getD noMark))=false from hc];decide)];rfl
         · have hlk:lk [((1:Int),(1:Nat)),(2,2),(3,3),(4,4)] m.bn=some 4:=by rw[hly];rfl
           have hfo:forM m p.aV r=(true):=by unfold forM;rw[hly];rfl
           have v3:=xa m.who p.aV r;rw[←hfo] at v3;clear hfo hmk
           repeat' (first|refine qP ?_ (h:=fun hg=>by first|exact iX aJ l ((j:Nat):Int) hm (hb:=oM)|exact ae|exact PRun.gL ab rfl rfl nds|exact PRun.lookup (ek:=ekP) (ev:=evM) (zv:=noMark) (key:=(m.note,m.kind)) lL (lkG rfl) (lkG rfl) rfl rfl (Rd.w rfl nd) (Or.inr ⟨_,rfl,rfl⟩) (Rd.w rfl nd) rfl|exact pc hcn|exact ah)|apply sqW|refine rgK fun U V=>?_|(refine aN V ?_;clear V U)|refine aS ?_|refine aA ?_|refine aoE (EStep.dm (ek:=ekP) (ev:=evM) (key:=(m.note,m.kind)) (v:=m) lL (lkG rfl) rfl rfl rfl (Rd.w rfl tI) rfl (Rd.w rfl tI) rfl (Rd.w rfl tI) ?_)|refine cX ?_ ?_<;>intro hc<;>try simp only[dE] at hc|refine blK ?_|refine exW ?_|refine skW ?_|refine kD fun U V=>?_|(refine aqN (V _ ?_);clear V U)|refine aqQ rfl rfl (fun hg=>by first|exact PRun.dv (ek:=ekI) (ev:=fk) (zv:=0) hlk (ay (lkG rfl)) (lkG rfl) (lkG rfl) rfl rfl (Rd.w rfl nd) (Or.inl rfl) (Rd.w rfl nd) rfl|exact iX bt s.parts ((k:Nat):Int) hP (hb:=oM)|exact ae|exact pc v3|fail) (by exact rfl) ?_)
           all_goals (first|(exfalso;omega)|skip)
           · refine⟨j+1,oM,oM,⟨rfl,rfl,rfl,rfl,rfl,rfl,rfl,rfl,rfl,rfl,tI⟩,?_⟩;rw[hst];unfold eJ;rw[if_pos (by exact hc)];rfl
           · rename_i h1;refine⟨j+1,oM,oM,⟨rfl,rfl,rfl,rfl,rfl,rfl,rfl,rfl,rfl,rfl,tI⟩,?_⟩;rw[hst];unfold eJ;rw[if_neg (by rw[show(m.version != s.version||!forM m p.aV r)=false from h1];decide),if_pos (by exact hc)];rfl
           · rename_i h1;refine⟨j+1,oM,oM,⟨rfl,rfl,rfl,rfl,rfl,rfl,rfl,rfl,rfl,rfl,tI⟩,?_⟩;rw[hst];unfold eJ;rw[if_neg (by rw[show(m.version != s.version||!forM m p.aV r)=false from h1];decide),if_neg (by rw[show(!(lk al (m.note,m.kind)).isSome||cnt m ((lk al (m.note,m.kind)).getD noMark))=false from hc];decide)];rfl
       · obtain rfl:j=l.length:=oM;rw[zB2];have Na:∀n kd,lk (lV s.version p.aV r l) (n,kd)=mW s l p r n kd:=fun n kd=>KK _ _ _ _ _ _
         generalize lV s.version p.aV r l=al at *;generalize mW s l p r=f at *
         repeat' (first|refine qT ?_|apply sqW|refine rgK fun U V=>?_|(refine aN V ?_;clear V U)|refine aS ?_|refine aA ?_|refine cX ?_ ?_<;>intro hc<;>try simp only[dE] at hc|refine blK ?_|refine exW ?_|refine skW ?_|refine kD fun U V=>?_|refine aqQ rfl rfl (fun hg=>by exact ae) (by exact rfl) ?_)
         all_goals (first|(exfalso;omega)|skip)
         refine AWP.fX (d:=19) (sz:=10) rfl ?_
         skip
         refine lpD (ι:=Nat) (fun j=>[(11,.sl 12 (ns.map ar) .no),(12,.map 2),(19,.sl 10 ((dP f (ns.take j)).map aJ) (.own 3)),(126,.sl 12 (ns.map ar) .no),(127,.int ns.length),(128,.int j)])
          (fun j=>[.var (encS s),.var (cQ r),.map (Go.Ab.aD ekP evM al),.own 10 ((dP f (ns.take j)).map aJ).length])
          (fun j=>j≤ns.length) (fun j=>ns.length - j) 4 (fun _=>rfl) 0 (nZl _) ⟨rfl,rfl,rfl,rfl,rfl,rfl,tI⟩ rfl (fun _ _=>rfl) (fun j _=>by simp only[zAq,zAu,zC2,zA0];exact⟨rfl,rfl,p7 _ _,rfl⟩) ?_
         intro j hj;have hol:=ve f (ns.take j);rw[zAg] at hol;by_cases hjl:j<ns.length
         · have hsn:=Ba f hjl;obtain⟨n,hn1⟩:∃n,ns.getD j default=n:=⟨_,rfl⟩
           rw[hn1] at hsn
           repeat' (first|refine qP ?_ (h:=fun hg=>by first|exact iX ar ns ((j:Nat):Int) hn1 (hb:=oM)|exact ae|fail)|apply sqW|refine rgK fun U V=>?_|(refine aN V ?_;clear V U)|refine aS ?_|refine aA ?_|refine cX ?_ ?_<;>intro hc<;>try simp only[dE] at hc|refine blK ?_|refine exW ?_|refine skW ?_|refine rtW ?_)
           all_goals (first|(exfalso;omega)|skip)
           generalize dP f (ns.take j)=out at *
           refine lpD (ι:=Nat) (fun kd=>[(11,.sl 12 (ns.map ar) .no),(12,.map 2),(19,.sl 10 ((out++(kinds.take kd).filterMap (f n.id)).map aJ) (.own 3)),(21,.ptr 4 0),(22,.int ((kd:Int)+1)),(126,.sl 12 (ns.map ar) .no),(127,.int ns.length),(128,.int j)])
            (fun kd=>[.var (encS s),.var (cQ r),.map (Go.Ab.aD ekP evM al),.own 10 ((out++(kinds.take kd).filterMap (f n.id)).map aJ).length,.var (ar n)])
            (fun kd=>kd≤5) (fun kd=>5 - kd) 5 (fun _=>rfl) 0 (nZl _) ⟨rfl,rfl,(by show AV.sl 10 (List.map aJ out) (.own 3)=AV.sl 10 (List.map aJ (out++[])) (.own 3);rw[zCc]),rfl,rfl,rfl,rfl,rfl,tI⟩ (by show[_,_,_,aF.own 10 (List.map aJ out).length,_]=[_,_,_,aF.own 10 (List.map aJ (out++[])).length,_];rw[zCc];rfl) (fun _ _=>rfl) (fun kd _=>by simp only[zAq,zAu,zC2,zA0];exact⟨rfl,rfl,p7 _ _,rfl,rfl⟩) ?_
           intro kd hkd;have hol2:(out++(kinds.take kd).filterMap (f n.id)).length≤5 * min j ns.length+5:=by
            rw[lLa];have h9:=qz (f n.id) (kinds.take kd);rw[zAg] at h9;have:kinds.length=5:=rfl;omega
           by_cases hk5:kd<5
           · have hka:=HN hk5 (f n.id);have hlk:=Na n.id ((kd:Int)+1);obtain⟨O,hO⟩:∃O,out++(kinds.take kd).filterMap (f n.id)=O:=⟨_,rfl⟩
             have hO2:out++(kinds.take (kd+1)).filterMap (f n.id)=O++(match f n.id ((kd:Int)+1) with|none=>[]|some m=>[m]):=by
              rw[hka,←hO,zBo];try rfl
             rw[hO] at hol2 ⊢;cases hfm:f n.id ((kd:Int)+1) with
             | none =>
               rw[hfm] at hlk hO2
               repeat' (first|refine qP ?_ (h:=fun hg=>by first|exact ae|exact PRun.gL ab rfl rfl nds|exact PRun.dv (ek:=ekP) (ev:=evM) (zv:=noMark) (key:=(n.id,(kd:Int)+1)) hlk lL (lkG rfl) (lkG rfl) rfl rfl (Rd.w rfl nd) (Or.inr ⟨_,rfl,rfl⟩) (Rd.w rfl nd) rfl|fail)|apply sqW|refine rgK fun U V=>?_|(refine aN V ?_;clear V U)|refine aS ?_|refine aA ?_|refine cX ?_ ?_<;>intro hc<;>try simp only[dE] at hc|refine blK ?_|refine exW ?_|refine skW ?_)
               all_goals (first|(exfalso;omega)|(exfalso;simp at hc;done)|skip)
               refine⟨kd+1,oM,oM,⟨rfl,rfl,?_,rfl,?_,rfl,rfl,rfl,tI⟩,?_⟩
               · rw[hO2,zCc];rfl
               · show AV.int _=AV.int _;congr 1
               · rw[hO2,zCc];rfl
             | some m =>
               rw[hfm] at hlk hO2
               repeat' (first|refine qP ?_ (h:=fun hg=>by first|exact ae|exact PRun.gL ab rfl rfl nds|exact pbS ab rfl rfl nds|exact PRun.dv (ek:=ekP) (ev:=evM) (zv:=noMark) (key:=(n.id,(kd:Int)+1)) hlk lL (lkG rfl) (lkG rfl) rfl rfl (Rd.w rfl nd) (Or.inr ⟨_,rfl,rfl⟩) (Rd.w rfl nd) rfl|fail)|apply sqW|refine rgK fun U V=>?_|(refine aN V ?_;clear V U)|refine aS ?_|refine aA ?_|refine aoE (apO ab rfl rfl rfl dCd (Rd.w rfl tI) rfl (Rd.w rfl tI) (.sl rfl (by first|(intro x hx;rcases zA9.1 hx with rfl;rfl)|exact one_encMk [m])) (lkG rfl) (lkG rfl) rfl rfl (by simp only[lLm,lLa,zAc,zAi,zAg,zAx];omega) (by simp only[lLm,lLa,zAc,zAi,zAg,zAx];omega) ?_)|refine cX ?_ ?_<;>intro hc<;>try simp only[dE] at hc|refine blK ?_|refine exW ?_|refine skW ?_)
               all_goals (first|(exfalso;omega)|(exfalso;simp at hc;done)|skip)
               refine⟨kd+1,oM,oM,⟨rfl,rfl,?_,rfl,?_,rfl,rfl,rfl,tI⟩,?_⟩
               · rw[hO2,zAz];rfl
               · show AV.int _=AV.int _;congr 1
               · rw[hO2,zAz];rfl
           · obtain rfl:kd=5:=oM
             repeat' (first|refine qS ?_|apply sqW|refine rgK fun U V=>?_|(refine aN V ?_;clear V U)|refine cX ?_ ?_<;>intro hc<;>try simp only[dE] at hc|refine blK ?_|refine exW ?_|refine skW ?_)
             all_goals (first|(exfalso;omega)|skip)
             refine⟨j+1,oM,oM,⟨rfl,rfl,?_,rfl,rfl,rfl,tI⟩,?_⟩
             · rw[hsn];rfl
             · rw[hsn];rfl
         · obtain rfl:j=ns.length:=oM
           repeat' (first|refine qT ?_|apply sqW|refine rgK fun U V=>?_|(refine aN V ?_;clear V U)|refine aS ?_|refine aA ?_|refine cX ?_ ?_<;>intro hc<;>try simp only[dE] at hc|refine blK ?_|refine exW ?_|refine skW ?_|refine rtW ?_)
           all_goals (first|(exfalso;omega)|skip)
           refine⟨.inr rfl,Ent.of ?_⟩;rw[zB2];rfl
   · have es:iW s l r=([],22):=by unfold iW;rw[if_pos hgood,if_neg hf]
     rw[es];rw[HM g1 g3 hf] at hp;refine PCall.body Tryz.func45 rfl rfl Tryz.ntmps45 rfl rfl ?_
     repeat' (first|refine qP ?_ (h:=fun hg=>by first|exact ae|exact pc hv|exact pc hm|exact pc hr|exact pc hp|fail)|apply sqW|refine rgK fun U V=>?_|(refine aN V ?_;clear V U)|refine aB ?_|refine cX ?_ ?_<;>intro hc<;>try simp only[dE] at hc|refine skW ?_|refine rtW ?_)
     · exfalso;simp at hc
     refine kD fun U V=>?_
     repeat' (first|refine qS ?_|apply sqW|refine rgK fun U V=>?_|(refine aN V ?_;clear V U)|refine cX ?_ ?_<;>intro hc<;>try simp only[dE] at hc|refine skW ?_|refine rtW ?_|(refine aqN (V _ ?_);clear V U)|refine aqQ rfl rfl (fun hg=>by first|exact ae|exact(Bool.noConfusion (show false=true from hg):PRun _ _ _ _ (.b false))|fail) (by exact rfl) ?_)
     · exact⟨.inr rfl,Ent.fL Ent.nil (Ent.cB _)⟩
     all_goals (exfalso;simp at hc)
 · have es:iW s l r=([],1):=by unfold iW;rw[if_neg hgood]
   rw[es];have Dx:((!aQ s||!bP l)||!cu r)=true:=by
    revert hgood;cases aQ s<;>cases bP l<;>cases cu r<;>simp
   refine PCall.body Tryz.func45 rfl rfl Tryz.ntmps45 rfl rfl ?_
   repeat' (first|refine qP ?_ (h:=fun hg=>by first|exact ae|exact pc hv|exact pc hm|exact pc hr|fail)|apply sqW|refine rgK fun U V=>?_|(refine aN V ?_;clear V U)|refine aB ?_|refine cX ?_ ?_<;>intro hc<;>try simp only[dE] at hc|refine skW ?_|refine rtW ?_)
   · exact⟨.inr rfl,Ent.fL Ent.nil (Ent.cB _)⟩
   all_goals (exfalso;first|(rw[Dx] at hc;cases hc)|(rename_i h9;rw[Dx] at h9;cases h9))
end Go.Proofs.YtmjdoencpjpegaaGreatDoor.Mk
namespace Go.Proofs.YtmjdoencpjpegaaGreatDoor.Mk
open Go.Ab Go.Jo
theorem HO (a:Jo.Mark):cnt a a=false:=by unfold cnt;rw[if_pos rfl];simp
theorem Fz {a b:Jo.Mark} (h:a.id≠b.id):cnt a b=!cnt b a:=by
 unfold cnt;by_cases h2:a.bn=b.bn
 · rw[if_pos h2,if_pos h2.symm,zB3];simp;omega
 · rw[if_neg h2,if_neg (Ne.symm h2),zB3];simp;omega
theorem FA {a b c:Jo.Mark} (h1:cnt a b=true) (h2:cnt b c=true):cnt a c=true:=by
 unfold cnt at *;split at h1<;>split at h2<;>split<;>simp only[dEt] at *<;>omega
theorem FB {a b:Jo.Mark} (ha:bc a=true) (hb:bc b=true):en a b=(cnt a b,0):=by
 unfold en;rw[ha,hb];rfl
theorem HP {m:Jo.Mark} {p:Part} {r:Rdr} (hm:bc m=true) (hr:cu r=true) (hp:r.part=p.id):bp m p r=(forM m p.aV r,0):=by
 unfold bp;rw[hm,hr,show(true&&true)=true from rfl,if_pos rfl,if_pos hp]
theorem kN (q:Jo.Mark→Bool) {l:List Jo.Mark} (hn:(l.map (·.id)).Nodup):∀k,k≤l.length →
 (∀b,jL q (l.take k)=some b→b∈l.take k∧q b=true∧∀m∈l.take k,q m=true→m=b∨cnt b m=true)∧(jL q (l.take k)=none→∀m∈l.take k,q m=false)
 |0,_=>⟨fun b h=>by simp[jL] at h,fun _ m h=>by simp at h⟩
 | k + 1, hk => by
   obtain⟨ih1,ih2⟩:=kN q hn k oM;have hkl:k<l.length:=oM;have hns:=(fi (fun b:Jo.Mark=>b.id) l k hkl).1 (by
    rw[←zD4 (k+1) l,zAz] at hn;exact(zBz.1 hn).1)
   rw[ry hkl,Dl];generalize hm:l.getD k default=m at *;have hid:∀w∈l.take k,w.id≠m.id:=fun w hw e=>hns.2 (zAf.2 ⟨w,hw,e⟩)
   by_cases hq:q m=true
   · rw[if_pos hq];cases hb:jL q (l.take k) with
     | none =>
       have h2:=ih2 hb;refine⟨fun b h=>?_,fun h=>by simp[better] at h⟩;simp only[better,Option.some.injEq] at h;subst h;refine⟨by simp,hq,fun x hx hqx=>?_⟩;rcases zAy.1 hx with h|h
       · have:=h2 x h;rw[hqx] at this;cases this
       · exact .inl (by simpa using h)
     | some w =>
       obtain⟨w1,w2,w3⟩:=ih1 w hb;refine⟨fun b h=>?_,fun h=>by simp only[better] at h;split at h<;>cases h⟩;simp only[better] at h;by_cases hc:cnt m w=true
       · rw[if_pos hc] at h;simp only[Option.some.injEq] at h;subst h;refine⟨by simp,hq,fun x hx hqx=>?_⟩;rcases zAy.1 hx with h|h
         · rcases w3 x h hqx with rfl|h3
           · exact .inr hc
           · exact .inr (FA hc h3)
         · exact .inl (by simpa using h)
       · rw[if_neg hc] at h;simp only[Option.some.injEq] at h;subst h;refine⟨zCw _ w1,w2,fun x hx hqx=>?_⟩;rcases zAy.1 hx with h|h
         · exact w3 x h hqx
         · have hx:x=m:=by simpa using h
           subst hx;refine .inr ?_;rw[Fz (hid w w1)];simpa using hc
   · rw[if_neg hq];have hq2:q m=false:=by simpa using hq
     refine⟨fun b h=>?_,fun h x hx=>?_⟩
     · obtain⟨w1,w2,w3⟩:=ih1 b h;refine⟨zCw _ w1,w2,fun x hx hqx=>?_⟩;rcases zAy.1 hx with h|h
       · exact w3 x h hqx
       · have hx:x=m:=by simpa using h
         subst hx;rw[hqx] at hq2;cases hq2
     · rcases zAy.1 hx with h2|h2
       · exact ih2 h x h2
       · have hx:x=m:=by simpa using h2
         subst hx;exact hq2
theorem vh {q:Jo.Mark→Bool} {l:List Jo.Mark} (hn:(l.map (·.id)).Nodup) {b:Jo.Mark} (h:jL q l=some b):b∈l∧q b=true∧∀m∈l,q m=true→m=b∨cnt b m=true:=by
 have:=(kN q hn l.length (nLr _)).1 b;rw[zB2] at this;exact this h
theorem Dy {q:Jo.Mark→Bool} {l:List Jo.Mark} (hn:(l.map (·.id)).Nodup) (h:jL q l=none):∀m∈l,q m=false:=by
 have:=(kN q hn l.length (nLr _)).2;rw[zB2] at this;exact this h
theorem p8 {f:Int→Int→Option Jo.Mark} {ns:List ag} {m:Jo.Mark}:m∈dP f ns↔∃n∈ns,∃k∈kinds,f n.id k=some m:=by
 unfold dP;rw[List.mem_flatMap];constructor
 · rintro⟨n,hn,h⟩;obtain⟨k,hk,e⟩:=zCh.1 h;exact⟨n,hn,k,hk,e⟩
 · rintro⟨n,hn,k,hk,e⟩;exact⟨n,hn,zCh.2 ⟨k,hk,e⟩⟩
abbrev HQ (m:Jo.Mark):Int×Int:=(m.note,m.kind)
theorem nV {g:Int→Option Jo.Mark} (hg:∀k m,g k=some m→m.kind=k):∀ks:List Int,ks.Nodup→((ks.filterMap g).map HQ).Nodup
 |[],_=>by simp
 | k :: t, h => by
   obtain⟨h1,h2⟩:=zC1.1 h;have ih:=nV hg t h2;rw[zE7];cases hk:g k with
   |none=>exact ih
   | some m =>
     rw[zBd,zC1];refine⟨fun hm=>?_,ih⟩;obtain⟨m',hm',e⟩:=zAf.1 hm;obtain⟨k',hk',e'⟩:=zCh.1 hm';have e1:=hg _ _ hk;have e2:=hg _ _ e';have e3:m'.kind=m.kind:=congrArg Prod.snd e;rw[e1,e2] at e3;exact h1 (e3▸hk')
theorem nW {f:Int→Int→Option Jo.Mark} (hf:∀n k m,f n k=some m→m.note=n∧m.kind=k):∀ns:List ag,(ns.map (·.id)).Nodup→((dP f ns).map HQ).Nodup
 |[],_=>by simp[dP]
 | n :: t, h => by
   rw[zBd,zC1] at h;have ih:=nW hf t h.2;have e:dP f (n::t)=kinds.filterMap (f n.id)++dP f t:=by unfold dP;rw[List.flatMap_cons]
   rw[e,zAz,zBz];refine⟨nV (fun k m h=>(hf n.id k m h).2) kinds dCd,ih,fun a ha b hb e=>?_⟩;obtain⟨m,hm,rfl⟩:=zAf.1 ha;obtain⟨k,_,e1⟩:=zCh.1 hm;obtain⟨m',hm',rfl⟩:=zAf.1 hb;obtain⟨n',hn',k',_,e2⟩:=p8.1 hm';have e3:m.note=m'.note:=congrArg Prod.fst e;rw[(hf _ _ _ e1).1,(hf _ _ _ e2).1] at e3;exact h.1 (zAf.2 ⟨n',hn',e3.symm⟩)
theorem Dz (l:List ag) (p:Part):(aL l p).map (·.id)=(l.filter fun n=>n.part==iE p).map (·.id):=by
 unfold aL;rw[zCo];rfl
theorem rG {l:List ag} (h:(l.map (·.id)).Nodup) (p:Part):((aL l p).map (·.id)).Nodup:=by
 rw[Dz];exact List.Sublist.nodup (List.Sublist.map _ List.filter_sublist) h
theorem ow {s:Score} {l:List Jo.Mark} {p:Part} {r:Rdr} (hn:(l.map (·.id)).Nodup) {n k:Int} {m:Jo.Mark} (h:mW s l p r n k=some m) :
 m∈l∧(m.note=n∧m.kind=k)∧m.version=s.version∧forM m p.aV r=true:=by
 obtain⟨h1,h2,_⟩:=vh hn h;unfold mw at h2;simp only[zB1,zAl,bne_eq_false_iff_eq,zB0] at h2;exact⟨h1,⟨h2.1.1.2,h2.1.2⟩,h2.1.1.1,h2.2⟩
theorem xI {l:List Jo.Mark} (h:bP l=true):(l.map (·.id)).Nodup:=by
 unfold bP at h;simp only[zA0,dEt] at h;exact h.1.2
theorem ch {l:List Jo.Mark} (h:bP l=true) {m:Jo.Mark} (hm:m∈l):bc m=true:=by
 unfold bP at h;simp only[zA0,zA6] at h;exact h.1.1 m hm
theorem Bb {m:Jo.Mark} (h:bc m=true):m.kind∈kinds:=by
 unfold bc at h;simp only[zA0] at h;have:=Kf.1 h.1.1.2;simp[kinds];omega
theorem FC {m:Jo.Mark} {v sec:Int} {r:Rdr} (hv:m.version=v) (hf:forM m sec r=true):mw v m.note m.kind sec r m=true:=by
 unfold mw;rw[hv,hf];simp
attribute [local irreducible] AWP AOps EStep AQ PStep PRun PCall TCall VCall
theorem DA {s:Score} {id:Int} (hok:aQ s=true) {k:Nat} {p:Part} (e:jh s id=k) (hP:s.parts.getD k default=p):ia s id=(aL s.notes p,0):=by
 unfold ia;rw[if_pos hok,show aX (fun x:Part=>x.id==id) s.parts=(k:Int) from e,if_pos (zD7 k),zAj,hP]
theorem qA {s:Score} (h:aQ s=true):(s.notes.map (·.id)).Nodup:=by
 unfold aQ lg at h;simp only[zA0,zB1,zAl,zB0] at h;exact qx h.1.1.2
end Go.Proofs.YtmjdoencpjpegaaGreatDoor.Mk
