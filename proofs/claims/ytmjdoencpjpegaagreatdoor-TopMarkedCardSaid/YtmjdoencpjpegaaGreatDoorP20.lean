/- Parts of the proof. No statement is proved here. -/
import Derived.LaidMore
import Derived.MakeChecks
import Derived.SizedLaws
import Derived.Test.YtmjdoencpjpegaaGreatDoorP17
set_option linter.unusedVariables false
set_option linter.unusedSimpArgs false
set_option maxHeartbeats 16000000
set_option maxRecDepth 20000
namespace Go.Proofs.YtmjdoencpjpegaaGreatDoor
open Go.Ab
attribute [local irreducible] AWP AOps EStep AQ PStep PRun PCall TCall VCall
def mx (p:Part) (n:ag):ag:={ n with part:=p.id,pitch:={ n.pitch with oct:=n.pitch.oct+p.jz } }
def iE (p:Part):Int:=if p.of_==0 then p.id else p.of_
def aL (l:List ag) (p:Part):List ag:=(l.filter fun n=>n.part==iE p).map (mx p)
theorem A6 (s:Score) (p:Part):PCall Tryz.prog 57 [.agg (encS s),.agg (bt p)] (.fn (.func 107) [] [.iptr (encS s),.iptr [.int (iE p)],.iptr (bt p)]):=by
 refine PCall.body Tryz.func57 rfl rfl Tryz.ntmps57 rfl rfl ?_
 repeat' (first|refine qS ?_|apply sqW|refine rgK fun U V=>?_|(refine aN V ?_;clear V U)|refine aB ?_|refine aS ?_|refine aA ?_|refine cX ?_ ?_<;>intro hc<;>try simp only[dE] at hc|refine skW ?_)
 all_goals
  refine AWP.ei 0 rfl rfl ?_;refine AWP.ei 1 rfl rfl ?_;refine AWP.ei 2 rfl rfl ?_
 · refine rtW ⟨.inr rfl,?_⟩;have e:iE p=p.id:=if_pos hc;rw[e];exact fun _ _ h=>h
 · refine rtW ⟨.inr rfl,?_⟩;have e:iE p=p.of_:=if_neg (by rw[hc];decide);rw[e];exact fun _ _ h=>h
theorem uR (l:List ag) (p:Part):(aL l p).length≤l.length:=by
 unfold aL;rw[lLm];exact zBm _ _
theorem Dm {l:List ag} {p:Part} {k:Nat} (h:k<l.length) (hp:((l.getD k default).part==iE p)=true) :
 (aL l p)[(aL (l.take k) p).length]? = some (mx p (l.getD k default))∧(aL (l.take (k+1)) p).length=(aL (l.take k) p).length+1:=by
 have e1:l=l.take k++(l.getD k default::l.drop (k+1)):=by
  rw[aU h,←zBj h,zD4]
 have e2:l.take (k+1)=l.take k++[l.getD k default]:=by
  rw[zCu,aU h];simp[h]
 constructor
 · have e3:aL l p=aL (l.take k) p++(mx p (l.getD k default)::aL (l.drop (k+1)) p):=by
    conv=>lhs;rw[e1]
    unfold aL;rw[zCj,zBq (by exact hp),zAz,zBd]
   rw[e3];simp
 · rw[e2];unfold aL;rw[zCj,zBq (by exact hp)];simp
theorem Fo {l:List ag} {p:Part} {k:Nat} (h:k<l.length) (hp:((l.getD k default).part==iE p)=false):(aL (l.take (k+1)) p).length=(aL (l.take k) p).length:=by
 have e2:l.take (k+1)=l.take k++[l.getD k default]:=by
  rw[zCu,aU h];simp[h]
 rw[e2];unfold aL;rw[zCj,zBx (by rw[hp];decide)];simp
theorem MY {a b:Int} (h:(a != b)=false):(a==b)=true:=by simpa using h
theorem MZ {a b:Int} (h:(a != b)=true):(a==b)=false:=by simpa using h
def Jr (l:List ag):Prop:=∀n∈l,-1000≤n.pitch.oct∧n.pitch.oct≤1000
theorem ex4 {σ:aa} (h:σ.length=4):σ=[σ.getD 0 .dead,σ.getD 1 .dead,σ.getD 2 .dead,σ.getD 3 .dead]:=by
 match σ,h with
 |[a,b,c,d],_=>rfl
theorem A7 (s:Score) (p:Part) (hl:s.notes.length≤1000000000) (ho:Jr s.notes) (hp:-1000≤p.jz∧p.jz≤1000) :
 Ja Tryz.prog 107 [] [.iptr (encS s),.iptr [.int (iE p)],.iptr (bt p)] ((aL s.notes p).map fun n=>[.agg (ar n)]) 4:=by
 intro yv S R hS hR hy cv;rw[lLm] at *;have HB:∀k,(aL (s.notes.take k) p).length≤(aL s.notes p).length:=fun k=>by
  unfold aL;rw[lLm,lLm];exact(List.Sublist.filter _ (zE1 k s.notes)).length_le
 have ex:∀j,j≤(aL s.notes p).length→S j=[(S j).getD 0 .dead,(S j).getD 1 .dead,(S j).getD 2 .dead,(S j).getD 3 .dead]:=fun j hj=>ex4 (hS j hj).1
 have hok:∀j,j≤(aL s.notes p).length→[(S j).getD 0 .dead,(S j).getD 1 .dead,(S j).getD 2 .dead,(S j).getD 3 .dead].all (ak 4)=true:=fun j hj=>by rw[←ex j hj];exact(hS j hj).2
 show TCall _ _ [.opq yv,.iptr (encS s),.iptr [.int (iE p)],.iptr (bt p)] (S 0) _;rw[ex 0 (nZl _)];refine TCall.body Tryz.func107 rfl rfl Tryz.ntmps107 rfl rfl ?_
 repeat' (first|refine qT ?_|apply sqW|refine rgK fun U V=>?_|(refine aN V ?_;clear V U)|refine blK ?_)
 refine lpD (ι:=Nat) (fun k=>[(0,.opq yv),(2,.iptr [.int (iE p)]),(3,.iptr (bt p)),(8,.sl 12 (s.notes.map ar) .no),(9,.int s.notes.length),(10,.int k)])
  (fun k=>[(S (aL (s.notes.take k) p).length).getD 0 .dead,(S (aL (s.notes.take k) p).length).getD 1 .dead,(S (aL (s.notes.take k) p).length).getD 2 .dead,(S (aL (s.notes.take k) p).length).getD 3 .dead])
  (fun k=>k≤s.notes.length) (fun k=>s.notes.length - k) 4 (fun _=>rfl) 0 (nZl _) ⟨rfl,rfl,rfl,rfl,rfl,rfl,tI⟩ rfl (fun k _=>by
   simp only[zAq,zAu,zC2,zA0];exact⟨hy,rfl,rfl,rfl,rfl,rfl⟩) (fun k _=>hok _ (HB k)) ?_
 intro k hk;by_cases hlt:k<s.notes.length
 · have hq:=ho (s.notes.getD k default) (by rw[aU hlt];exact lGm hlt);cases hpart:((s.notes.getD k default).part==iE p) with
   | false =>
     have h1:=Fo hlt hpart;clear ex hok
     repeat' (first|refine qT ?_|apply sqW|refine rgK fun U V=>?_|(refine aN V ?_;clear V U)|refine aS ?_|refine aA ?_|refine cX ?_ ?_<;>intro hc<;>try simp only[dE] at hc|refine blK ?_|refine exW ?_|refine skW ?_)
     all_goals (first|(exfalso;omega)|skip)
     · refine⟨k+1,oM,oM,⟨rfl,rfl,rfl,rfl,rfl,rfl,tI⟩,?_⟩;rw[h1];rfl
     all_goals
      exfalso;have h5:=MY hc;rw[zAj,hpart] at h5;cases h5
   | true =>
     obtain⟨h1,h2⟩:=Dm hlt hpart;have hj:(aL (s.notes.take k) p).length<(aL s.notes p).length:=by
      have:=HB (k+1);omega
     have hc1:=HB (k+1);rw[h2] at hc1
     have hv:=VCall.frame (cv (aL (s.notes.take k) p).length [.agg (ar (mx p (s.notes.getD k default)))] (by rw[zA3,h1];rfl)) [.var (ar (mx p (s.notes.getD k default)))]
      (by rw[(hS _ oM).1];exact(hS _ oM).2) (by rw[(hS _ oM).1];exact hy) rfl (by
       rintro rv s' (⟨_,rfl⟩|⟨_,hh⟩)
       · rw[(hS _ oM).1,(hS _ oM).1]
       · rw[(hS _ oM).1,(hR _ _ hh).1])
     have hv2:VCall Tryz.prog (.opq yv) [.agg (ar (mx p (s.notes.getD k default)))] [(S (aL (s.notes.take k) p).length).getD 0 .dead,(S (aL (s.notes.take k) p).length).getD 1 .dead,(S (aL (s.notes.take k) p).length).getD 2 .dead,(S (aL (s.notes.take k) p).length).getD 3 .dead,.var (ar (mx p (s.notes.getD k default)))]
      (fun r t=>(r=.b true∧t=[(S (aL (s.notes.take (k+1)) p).length).getD 0 .dead,(S (aL (s.notes.take (k+1)) p).length).getD 1 .dead,(S (aL (s.notes.take (k+1)) p).length).getD 2 .dead,(S (aL (s.notes.take (k+1)) p).length).getD 3 .dead,.var (ar (mx p (s.notes.getD k default)))])∨(r=.b false∧∃t',t=t'++[.var (ar (mx p (s.notes.getD k default)))]∧R (aL (s.notes.take k) p).length t')):=by
      have e1:=ex (aL (s.notes.take k) p).length oM;have e2:=ex ((aL (s.notes.take k) p).length+1) hc1;rw[e1] at hv;refine VCall.mono hv ?_;rintro r t ⟨t',rfl,(⟨rfl,rfl⟩|⟨rfl,hh⟩)⟩
      · refine .inl ⟨rfl,?_⟩;rw[h2]
        conv=>lhs;rw[e2]
        rfl
      · exact .inr ⟨rfl,t',rfl,hh⟩
     clear hv ex hok
     repeat' (first|refine qT ?_|apply sqW|refine rgK fun U V=>?_|(refine aN V ?_;clear V U)|refine aS ?_|refine aA ?_|refine aoE (scT (hv2) rfl rfl rfl rfl rfl nd rfl rfl nds ?_)|refine cX ?_ ?_<;>intro hc<;>try simp only[dE] at hc|refine blK ?_|refine exW ?_|refine skW ?_)
     all_goals (first|(exfalso;omega)|skip)
     · exfalso;have h5:=MZ hc;rw[zAj,hpart] at h5;cases h5
     · rintro r t (⟨rfl,rfl⟩|⟨rfl,t',rfl,hh⟩)
       · repeat' (first|refine qS ?_|refine rgK fun U V=>?_|(refine aN V ?_;clear V U)|refine cX ?_ ?_<;>intro hc<;>try simp only[dE] at hc|refine skW ?_|refine rtW ?_)
         · exfalso;simp at hc
         · exact⟨k+1,oM,oM,⟨rfl,rfl,rfl,rfl,rfl,rfl,tI⟩,rfl⟩
       · repeat' (first|refine qS ?_|refine rgK fun U V=>?_|(refine aN V ?_;clear V U)|refine cX ?_ ?_<;>intro hc<;>try simp only[dE] at hc|refine skW ?_|refine rtW ?_)
         · obtain⟨k1,k2⟩:=hR _ _ hh;exact⟨.inr rfl,.tup [],t',.inr ⟨_,hj,hh⟩,by simp,by rw[k1];exact nLr _,by rw[k1];exact k2,rfl,rfl⟩
         · exfalso;simp at hc
 · repeat' (first|refine qT ?_|apply sqW|refine rgK fun U V=>?_|(refine aN V ?_;clear V U)|refine aS ?_|refine aA ?_|refine cX ?_ ?_<;>intro hc<;>try simp only[dE] at hc|refine blK ?_|refine exW ?_|refine skW ?_)
   all_goals (first|(exfalso;omega)|skip)
   have htk:s.notes.take k=s.notes:=zAn oM;refine⟨.inl rfl,.tup [],S (aL s.notes p).length,.inl rfl,?_,?_,?_,rfl,rfl⟩
   · rw[(hS _ (nLr _)).1]
     conv=>rhs;rw[ex _ (nLr _)]
     rw[htk];rfl
   · rw[(hS _ (nLr _)).1];exact nLr _
   · rw[(hS _ (nLr _)).1];exact(hS _ (nLr _)).2
end Go.Proofs.YtmjdoencpjpegaaGreatDoor
namespace Go.Ab
theorem AWP.Dn {P:Program} {n:Nat} {K:Exit→Env→aa→Prop} {env:Env} {σ:aa} {g:Operand} {ps:Array Tmp} {assign body:Code} {k:FuncId} {first aM:List AV}
 (xs:List (List AV)) (E:List (Nat×AV)) (S:Nat→aa) (R:Nat→Exit→aa→Prop) (iter:Ja P k first aM xs (σ.length+1)) (hg:rdv env g=some (.fn (.func k) first aM)) (ng:rdn env g)
 (hps:∀x∈xs,x.length=ps.size) (hxo:∀x∈xs,x.all (aG σ.length 4)=true) (hpn:ps.toList.all (fun d=>decide (d<n))=true) (hE:iy env E) (jS:E.all (fun p=>aG σ.length 4 p.2)=true)
 (hS0:S 0=σ) (hS:∀j,j≤xs.length→(S j).length=σ.length∧(S j).all (ak σ.length)=true)
 (hR:∀j x s,R j x s→s.length=σ.length∧s.all (ak σ.length)=true)
 (round:∀j x,xs[j]? = some x→AWP P n assign (fun x e s=>x=.normal∧AWP P n body (ig σ.length (S (j+1)) True (R j)) e s) ((Env.of E).pv (ps.toList.zip x)) (S j))
 (done:K .normal env (S xs.length)) (left:∀j x s,j<xs.length→R j x s→K x env s):AWP P n (.rangeFunc g ps assign body) K env σ:=by
 refine AWP.gU xs E S (fun _=>True) R (fun rc yv R' _ hS' hR' hy cv=>?_) trivial hg ng hps hxo hpn hE jS hS0 hS hR (fun j x hx _=>round j x hx) (fun _=>done) left;refine TCall.mono (iter yv (fun j=>S j++[.loop rc E]) R' hS' hR' (hy 2) (fun j x hx=>VCall.mono (cv j x hx trivial) ?_)) ?_
 · rintro r s (⟨a,b,_⟩|h)
   · exact .inl ⟨a,b⟩
   · exact .inr h
 · rintro rv s (h|h)
   · exact .inl ⟨h,trivial⟩
   · exact .inr h
end Go.Ab
namespace Go.Proofs.YtmjdoencpjpegaaGreatDoor
open Go.Ab
attribute [local irreducible] AWP AOps EStep AQ PStep PRun PCall TCall VCall
theorem A8 {s:Score} (h:aQ s=true):Jr s.notes∧∀p∈s.parts,-1000≤p.jz∧p.jz≤1000:=by
 unfold aQ lg at h;simp only[zA0,zB1,zAl,zB0] at h;obtain⟨⟨⟨⟨⟨h1,h2⟩,h3⟩,h4⟩,h5⟩,h6⟩:=h;constructor
 · intro n hn;unfold du at h4;simp only[zA0,zA6] at h4;have h7:=h4.1.2 n hn;unfold jw at h7;split at h7
   · unfold gJ iM si at h7;simp only[zA0] at h7;have:=h7.2.2.2;simp only[inB,zA0,dEt] at this;omega
   · cases h7
 · intro p hp;unfold lf at h3;simp only[zA0,zA6] at h3;have h7:=h3.1.2 p hp;unfold oU sm zf at h7;simp only[zA0,zB1,zAl,zB0] at h7;have:=h7.1.1.1.1.1.2;simp only[inB,zA0,dEt] at this;omega
def ia (s:Score) (id:Int):List ag×Int:=if aQ s then (if aX (fun x:Part=>x.id==id) s.parts≥0 then (aL s.notes (s.parts.getD (aX (fun x:Part=>x.id==id) s.parts).toNat default),0) else ([],22)) else ([],1)
theorem uS (s:Score) (hs:s.Small) (id:Int):PCall Tryz.prog 29 [.agg (encS s),.int id] (.tup [.sl 12 ((ia s id).1.map ar) .no,.int (ia s id).2]):=by
 have hv:=dy s hs;obtain⟨h1,h2,h3⟩:=hs;have hi:=oV s.parts id oM;by_cases hok:aQ s=true
 · by_cases hf:aX (fun x:Part=>x.id==id) s.parts≥0
   · obtain⟨k,e1,e2,e3,e4⟩:=eh hf;have er:ia s id=(aL s.notes (s.parts.getD k default),0):=by unfold ia;rw[if_pos hok,if_pos hf,e1];rfl
     rw[er];rw[e1] at hi;have hmx:(jl (k:Int)).1=k:=by unfold jl;simp
     rw[hmx] at hi;have hpl:=A6 s (s.parts.getD k default);obtain⟨o1,o2⟩:=A8 hok;have hit:=A7 s (s.parts.getD k default) h3 o1 (o2 _ (by rw[aU e2];exact lGm e2));have hpn:=uR s.notes (s.parts.getD k default);generalize hP:s.parts.getD k default=p at *;refine PCall.body Tryz.func29 rfl rfl Tryz.ntmps29 rfl rfl ?_
     repeat' (first|refine qP ?_ (h:=fun hg=>by first|exact ae|exact pc hv|exact pc hi|fail)|apply sqW|refine rgK fun U V=>?_|(refine aN V ?_;clear V U)|refine aB ?_|refine aA ?_|refine cX ?_ ?_<;>intro hc<;>try simp only[dE] at hc|refine blK ?_|refine skW ?_|refine rtW ?_|refine kD fun U V=>?_|(refine aqN (V _ ?_);clear V U)|refine aqQ rfl rfl (fun hg=>by first|exact piW ab rfl rfl nd rfl nd rfl rfl ⟨zD7 _,Int.ofNat_lt.2 e2⟩|exact ae|exact pcW hpl rfl rfl nd (by simp only[zAj];rw[hP];rfl) nds|fail) (by exact rfl) ?_)
     · exfalso;rw[hok] at hc;cases hc
     · exfalso;simp[jl] at hc
     refine AWP.j5 (v:=1) (i:=0) (sz:=12) (cs:=[.nils]) rfl rfl ?_
     refine AWP.Dn (k:=107) (first:=[]) (aM:=[.iptr (encS s),.iptr [.int (iE p)],.iptr (bt p)]) ((aL s.notes p).map fun n=>[.agg (ar n)]) [(8,.ptr 1 0)] (fun j=>[.var (encS s),.var [.sl 12 (((aL s.notes p).take j).map ar) (.own 2)],.own 12 (((aL s.notes p).take j).map ar).length]) (fun _ _ _=>False)
      hit rfl tI ?_ ?_ rfl ⟨rfl,tI⟩ rfl rfl (fun j _=>⟨rfl,rfl⟩) (fun _ _ _ h=>h.elim) ?_ ?_ (fun _ _ _ _ h=>h.elim)
     · intro x hx;obtain⟨n,_,rfl⟩:=zAf.1 hx;rfl
     · intro x hx;obtain⟨n,_,rfl⟩:=zAf.1 hx;rfl
     · intro j x hx;simp only[zA3,zA5] at hx;obtain⟨n,hn,rfl⟩:=hx;have hj:j<(aL s.notes p).length:=by
        rcases nLg j (aL s.notes p).length with h|h
        · exact h
        · simp[zA2 h] at hn
       repeat' (first|refine rgK fun U V=>?_|(refine aN V ?_;clear V U)|refine aS ?_|refine aA ?_)
       refine⟨rfl,?_⟩
       repeat' (first|refine qP ?_ (h:=fun hg=>by first|exact ae|exact pbS ab rfl rfl nds|fail)|refine rgK fun U V=>?_|(refine aN V ?_;clear V U)|refine aS ?_|refine aoE (apO ab rfl rfl rfl dCd (Rd.w rfl tI) rfl (Rd.w rfl tI) (.sl rfl (by first|(intro x hx;rcases zA9.1 hx with rfl;rfl)|exact pJ _)) (lkG rfl) (lkG rfl) rfl rfl (by simp only[lLm,lLa,zAc,zAi,zAg,zAx];omega) (by simp only[lLm,lLa,zAc,zAi,zAg,zAx];omega) ?_)|refine blK ?_)
       refine⟨?_,trivial⟩;show[_,_,_]=[_,_,_];have e:(aL s.notes p).take (j+1)=(aL s.notes p).take j++[n]:=by
        rw[zCu,hn];rfl
       rw[e,zAz];rfl
     · repeat' (first|refine qS ?_|apply sqW|refine rgK fun U V=>?_|(refine aN V ?_;clear V U)|refine rtW ?_)
       refine⟨.inr rfl,Ent.of ?_⟩;rw[lLm,zB2];rfl
   · have er:ia s id=([],22):=by unfold ia;rw[if_pos hok,if_neg hf]
     rw[er];have hm:(jl (aX (fun x:Part=>x.id==id) s.parts)).2=false:=by unfold jl;simpa using hf
     rw[hm] at hi;have dead:∀{b:Bool},b=(!false)→b=false→False:=fun h1 h2=>by rw[h2] at h1;cases h1
     refine PCall.body Tryz.func29 rfl rfl Tryz.ntmps29 rfl rfl ?_
     repeat' (first|refine qP ?_ (h:=fun hg=>by first|exact ae|exact pc hv|exact pc hi|fail)|apply sqW|refine rgK fun U V=>?_|(refine aN V ?_;clear V U)|refine aB ?_|refine aA ?_|refine cX ?_ ?_<;>intro hc<;>try simp only[dE] at hc|refine skW ?_|refine rtW ?_)
     · exfalso;rw[hok] at hc;cases hc
     · exact⟨.inr rfl,Ent.fL Ent.nil (Ent.cB _)⟩
     · exfalso;simp at hc
 · have er:ia s id=([],1):=by unfold ia;rw[if_neg hok]
   rw[er];refine PCall.body Tryz.func29 rfl rfl Tryz.ntmps29 rfl rfl ?_
   repeat' (first|refine qP ?_ (h:=fun hg=>by first|exact ae|exact pc hv|exact pc hi|fail)|apply sqW|refine rgK fun U V=>?_|(refine aN V ?_;clear V U)|refine aB ?_|refine aA ?_|refine cX ?_ ?_<;>intro hc<;>try simp only[dE] at hc|refine skW ?_|refine rtW ?_)
   · exact⟨.inr rfl,Ent.fL Ent.nil (Ent.cB _)⟩
   all_goals (exfalso;rename_i hc0;exact hok (by simpa using hc0))
def Score.uT (s:Score):Prop:=s.bars.length≤9223372036854775807∧s.parts.length≤9223372036854775807∧s.notes.length≤9223372036854775807
def Score.few (s:Score):Bool:=decide ((s.bars.length:Int)≤60)&&decide ((s.parts.length:Int)≤61)&&decide ((s.notes.length:Int)≤60)
theorem ou {bars:List Bar} {l:List ag} (h:du bars l=true):fE bars=true∧l.length≤20000∧∀x∈l,jw bars x=true:=by
 unfold du at h;simp only[zA0,dEt,zA6] at h;exact⟨h.1.1.1,oM,h.1.2⟩
theorem pO {α:Type} (p:α→Bool) (l:List α):-1≤aX p l:=by unfold aX;split<;>omega
end Go.Proofs.YtmjdoencpjpegaaGreatDoor
namespace Go.Ab
open Go.ChangeShapes Go.WideShapes
theorem uU {P:Program} {w:World} {r:Reach} {b0:Nat} {t e:TypeId} {v:Value} (hu:P.underlying t=some (.slice e)) (hv:Value.okWide P w r b0 t v):v.cells.toList=[v]:=by
 unfold Value.okWide at hv;rw[hu] at hv;simp only at hv;unfold Cell.okWide at hv;simp only[hu] at hv;cases v with
 |slice a l c=>simp[Value.cells]
 |_=>unfold Cell.ok at hv;simp[hu] at hv
end Go.Ab
namespace Go.Proofs.YtmjdoencpjpegaaGreatDoor
open Go.Ab Go.ChangeShapes Go.WideShapes
section
variable {H:Type} {enc:TypeId×Value→H} {W:World} {base b0 fuel:Nat} {held:Bool} {spare:Nat→Bool}
abbrev vI (n:Int):Value:=.int .i64 n
theorem lk3:LOk Tryz.prog 3 ⟨.int .i64,1,8,[.i .i64]⟩:=.of (ab.get rfl)
theorem cn3:Tryz.prog.cellsOf 3=1:=by kernel_rfl
theorem M1:LOk Tryz.prog 104 ⟨.struct [(3,0,1),(3,1,1)],2,16,[.i .i64,.i .i64]⟩:=.of (ab.get rfl)
theorem uV:Tryz.prog.cellsOf 104=2:=by kernel_rfl
def pZ (x:Rat):List Value:=[vI x.n]++[vI x.d]
theorem x5 {cs:List Value} {y:DataW H×List MemPlace} (h:DataW.trod enc Tryz.prog W base spare held fuel 104 cs=some y):∃x:Rat,cs=pZ x:=by
 obtain⟨hlen,n,hf⟩:=cR M1 h;rw[uV] at hlen
 match cs,hlen with
 | [u0, u1], _ =>
   obtain⟨y0,h0⟩:=hf 0 3 0 1 rfl;obtain⟨y1,h1⟩:=hf 1 3 1 1 rfl;rw[cn3] at h0 h1;obtain⟨n0,e0,_⟩:=bx lk3 h0;obtain⟨n1,e1,_⟩:=bx lk3 h1;have g0:u0=vI n0:=by simpa using e0
   have g1:u1=vI n1:=by simpa using e1
   refine⟨⟨n0,n1⟩,?_⟩;subst g0;subst g1;unfold pZ;rfl
theorem Dp:LOk Tryz.prog 57 ⟨.struct [(3,0,1),(3,1,1)],2,16,[.i .i64,.i .i64]⟩:=.of (ab.get rfl)
theorem uW:Tryz.prog.cellsOf 57=2:=by kernel_rfl
def nU (x:Interval):List Value:=[vI x.steps]++[vI x.l7]
theorem Dq {cs:List Value} {y:DataW H×List MemPlace} (h:DataW.trod enc Tryz.prog W base spare held fuel 57 cs=some y):∃x:Interval,cs=nU x:=by
 obtain⟨hlen,n,hf⟩:=cR Dp h;rw[uW] at hlen
 match cs,hlen with
 | [u0, u1], _ =>
   obtain⟨y0,h0⟩:=hf 0 3 0 1 rfl;obtain⟨y1,h1⟩:=hf 1 3 1 1 rfl;rw[cn3] at h0 h1;obtain⟨n0,e0,_⟩:=bx lk3 h0;obtain⟨n1,e1,_⟩:=bx lk3 h1;have g0:u0=vI n0:=by simpa using e0
   have g1:u1=vI n1:=by simpa using e1
   refine⟨⟨n0,n1⟩,?_⟩;subst g0;subst g1;unfold nU;rfl
theorem KM:LOk Tryz.prog 59 ⟨.struct [(3,0,1),(3,1,1),(3,2,1)],3,24,[.i .i64,.i .i64,.i .i64]⟩:=.of (ab.get rfl)
theorem sx:Tryz.prog.cellsOf 59=3:=by kernel_rfl
def lW (x:gg):List Value:=[vI x.step]++[vI x.alter]++[vI x.oct]
theorem wq {cs:List Value} {y:DataW H×List MemPlace} (h:DataW.trod enc Tryz.prog W base spare held fuel 59 cs=some y):∃x:gg,cs=lW x:=by
 obtain⟨hlen,n,hf⟩:=cR KM h;rw[sx] at hlen
 match cs,hlen with
 | [u0, u1, u2], _ =>
   obtain⟨y0,h0⟩:=hf 0 3 0 1 rfl;obtain⟨y1,h1⟩:=hf 1 3 1 1 rfl;obtain⟨y2,h2⟩:=hf 2 3 2 1 rfl;rw[cn3] at h0 h1 h2;obtain⟨n0,e0,_⟩:=bx lk3 h0;obtain⟨n1,e1,_⟩:=bx lk3 h1;obtain⟨n2,e2,_⟩:=bx lk3 h2;have g0:u0=vI n0:=by simpa using e0
   have g1:u1=vI n1:=by simpa using e1
   have g2:u2=vI n2:=by simpa using e2
   refine⟨⟨n0,n1,n2⟩,?_⟩;subst g0;subst g1;subst g2;unfold lW;rfl
theorem M3:LOk Tryz.prog 156 ⟨.struct [(3,0,1),(104,1,2),(3,3,1)],4,32,[.i .i64,.i .i64,.i .i64,.i .i64]⟩:=.of (ab.get rfl)
theorem Js:Tryz.prog.cellsOf 156=4:=by kernel_rfl
def HC (x:Bar):List Value:=[vI x.id]++pZ x.len++[vI x.key]
theorem M4 {cs:List Value} {y:DataW H×List MemPlace} (h:DataW.trod enc Tryz.prog W base spare held fuel 156 cs=some y):∃x:Bar,cs=HC x:=by
 obtain⟨hlen,n,hf⟩:=cR M3 h;rw[Js] at hlen
 match cs,hlen with
 | [u0, u1, u2, u3], _ =>
   obtain⟨y0,h0⟩:=hf 0 3 0 1 rfl;obtain⟨y1,h1⟩:=hf 1 104 1 2 rfl;obtain⟨y2,h2⟩:=hf 2 3 3 1 rfl;rw[cn3] at h0 h2;rw[uV] at h1;obtain⟨n0,e0,_⟩:=bx lk3 h0;obtain⟨n1,e1⟩:=x5 h1;obtain⟨n2,e2,_⟩:=bx lk3 h2;have g0:u0=vI n0:=by simpa using e0
   have g1:[u1,u2]=pZ n1:=by simpa using e1
   have g2:u3=vI n2:=by simpa using e2
   refine⟨⟨n0,n1,n2⟩,?_⟩;subst g0;subst g2;unfold HC;rw[←g1];rfl
theorem LX (x:Bar):∀(j:Nat) c,(bD x)[j]? = some c→af (bR W) [] c ((HC x).getD j undef):=fun j c hj=>by
 match j,hj with
 |0,hj|1,hj|2,hj|3,hj=>simp only[bD,zBv,zCv,Option.some.injEq] at hj;subst hj;exact .prim _
 |j+4,hj=>simp[bD] at hj
theorem LY:LOk Tryz.prog 61 ⟨.struct [(3,0,1),(3,1,1),(3,2,1),(3,3,1),(3,4,1),(57,5,2),(59,7,3),(59,10,3)],13,104,[.i .i64,.i .i64,.i .i64,.i .i64,.i .i64,.i .i64,.i .i64,.i .i64,.i .i64,.i .i64,.i .i64,.i .i64,.i .i64]⟩:=.of (ab.get rfl)
theorem Fp:Tryz.prog.cellsOf 61=13:=by kernel_rfl
def Dr (x:Part):List Value:=[vI x.id]++[vI x.aV]++[vI x.of_]++[vI x.jz]++[vI x.jg]++nU x.shift++lW x.low++lW x.high
theorem LZ {cs:List Value} {y:DataW H×List MemPlace} (h:DataW.trod enc Tryz.prog W base spare held fuel 61 cs=some y):∃x:Part,cs=Dr x:=by
 obtain⟨hlen,n,hf⟩:=cR LY h;rw[Fp] at hlen
 match cs,hlen with
 | [u0, u1, u2, u3, u4, u5, u6, u7, u8, u9, u10, u11, u12], _ =>
   obtain⟨y0,h0⟩:=hf 0 3 0 1 rfl;obtain⟨y1,h1⟩:=hf 1 3 1 1 rfl;obtain⟨y2,h2⟩:=hf 2 3 2 1 rfl;obtain⟨y3,h3⟩:=hf 3 3 3 1 rfl;obtain⟨y4,h4⟩:=hf 4 3 4 1 rfl;obtain⟨y5,h5⟩:=hf 5 57 5 2 rfl;obtain⟨y6,h6⟩:=hf 6 59 7 3 rfl;obtain⟨y7,h7⟩:=hf 7 59 10 3 rfl;rw[cn3] at h0 h1 h2 h3 h4;rw[uW] at h5;rw[sx] at h6;rw[sx] at h7;obtain⟨n0,e0,_⟩:=bx lk3 h0;obtain⟨n1,e1,_⟩:=bx lk3 h1;obtain⟨n2,e2,_⟩:=bx lk3 h2;obtain⟨n3,e3,_⟩:=bx lk3 h3;obtain⟨n4,e4,_⟩:=bx lk3 h4;obtain⟨n5,e5⟩:=Dq h5;obtain⟨n6,e6⟩:=wq h6;obtain⟨n7,e7⟩:=wq h7;have g0:u0=vI n0:=by simpa using e0
   have g1:u1=vI n1:=by simpa using e1
   have g2:u2=vI n2:=by simpa using e2
   have g3:u3=vI n3:=by simpa using e3
   have g4:u4=vI n4:=by simpa using e4
   have g5:[u5,u6]=nU n5:=by simpa using e5
   have g6:[u7,u8,u9]=lW n6:=by simpa using e6
   have g7:[u10,u11,u12]=lW n7:=by simpa using e7
   refine⟨⟨n0,n1,n2,n3,n4,n5,n6,n7⟩,?_⟩;subst g0;subst g1;subst g2;subst g3;subst g4;unfold Dr;rw[←g5];rw[←g6];rw[←g7];rfl
theorem KN (x:Part):∀(j:Nat) c,(bt x)[j]? = some c→af (bR W) [] c ((Dr x).getD j undef):=fun j c hj=>by
 match j,hj with
 |0,hj|1,hj|2,hj|3,hj|4,hj|5,hj|6,hj|7,hj|8,hj|9,hj|10,hj|11,hj|12,hj=>simp only[bt,zBv,zCv,Option.some.injEq] at hj;subst hj;exact .prim _
 |j+13,hj=>simp[bt] at hj
theorem L0:LOk Tryz.prog 106 ⟨.struct [(3,0,1),(3,1,1),(3,2,1),(3,3,1),(3,4,1),(104,5,2),(104,7,2),(59,9,3)],12,96,[.i .i64,.i .i64,.i .i64,.i .i64,.i .i64,.i .i64,.i .i64,.i .i64,.i .i64,.i .i64,.i .i64,.i .i64]⟩:=.of (ab.get rfl)
theorem Fq:Tryz.prog.cellsOf 106=12:=by kernel_rfl
def Ds (x:ag):List Value:=[vI x.id]++[vI x.part]++[vI x.bar]++[vI x.eA]++[vI x.iA]++pZ x.start++pZ x.len++lW x.pitch
theorem L1 {cs:List Value} {y:DataW H×List MemPlace} (h:DataW.trod enc Tryz.prog W base spare held fuel 106 cs=some y):∃x:ag,cs=Ds x:=by
 obtain⟨hlen,n,hf⟩:=cR L0 h;rw[Fq] at hlen
 match cs,hlen with
 | [u0, u1, u2, u3, u4, u5, u6, u7, u8, u9, u10, u11], _ =>
   obtain⟨y0,h0⟩:=hf 0 3 0 1 rfl;obtain⟨y1,h1⟩:=hf 1 3 1 1 rfl;obtain⟨y2,h2⟩:=hf 2 3 2 1 rfl;obtain⟨y3,h3⟩:=hf 3 3 3 1 rfl;obtain⟨y4,h4⟩:=hf 4 3 4 1 rfl;obtain⟨y5,h5⟩:=hf 5 104 5 2 rfl;obtain⟨y6,h6⟩:=hf 6 104 7 2 rfl;obtain⟨y7,h7⟩:=hf 7 59 9 3 rfl;rw[cn3] at h0 h1 h2 h3 h4;rw[uV] at h5;rw[uV] at h6;rw[sx] at h7;obtain⟨n0,e0,_⟩:=bx lk3 h0;obtain⟨n1,e1,_⟩:=bx lk3 h1;obtain⟨n2,e2,_⟩:=bx lk3 h2;obtain⟨n3,e3,_⟩:=bx lk3 h3;obtain⟨n4,e4,_⟩:=bx lk3 h4;obtain⟨n5,e5⟩:=x5 h5;obtain⟨n6,e6⟩:=x5 h6;obtain⟨n7,e7⟩:=wq h7;have g0:u0=vI n0:=by simpa using e0
   have g1:u1=vI n1:=by simpa using e1
   have g2:u2=vI n2:=by simpa using e2
   have g3:u3=vI n3:=by simpa using e3
   have g4:u4=vI n4:=by simpa using e4
   have g5:[u5,u6]=pZ n5:=by simpa using e5
   have g6:[u7,u8]=pZ n6:=by simpa using e6
   have g7:[u9,u10,u11]=lW n7:=by simpa using e7
   refine⟨⟨n0,n1,n2,n3,n4,n5,n6,n7⟩,?_⟩;subst g0;subst g1;subst g2;subst g3;subst g4;unfold Ds;rw[←g5];rw[←g6];rw[←g7];rfl
theorem KO (x:ag):∀(j:Nat) c,(ar x)[j]? = some c→af (bR W) [] c ((Ds x).getD j undef):=fun j c hj=>by
 match j,hj with
 |0,hj|1,hj|2,hj|3,hj|4,hj|5,hj|6,hj|7,hj|8,hj|9,hj|10,hj|11,hj=>simp only[ar,zBv,zCv,Option.some.injEq] at hj;subst hj;exact .prim _
 |j+12,hj=>simp[ar] at hj
theorem L2:LOk Tryz.prog 51 ⟨.slice 156,1,24,[.slice]⟩:=.of (ab.get rfl)
theorem L3:Tryz.prog.cellsOf 51=1:=by kernel_rfl
theorem KP:LOk Tryz.prog 52 ⟨.slice 61,1,24,[.slice]⟩:=.of (ab.get rfl)
theorem KQ:Tryz.prog.cellsOf 52=1:=by kernel_rfl
theorem KR:LOk Tryz.prog 53 ⟨.slice 106,1,24,[.slice]⟩:=.of (ab.get rfl)
theorem KS:Tryz.prog.cellsOf 53=1:=by kernel_rfl
theorem KT:LOk Tryz.prog 55 ⟨.struct [(3,0,1),(51,1,1),(52,2,1),(53,3,1)],4,80,[.i .i64,.slice,.slice,.slice]⟩:=.of (ab.get rfl)
theorem KU:Tryz.prog.cellsOf 55=4:=by kernel_rfl
end
theorem own:ownKnob Tryz.prog.godebug=none:=by kernel_rfl
theorem laidOut:laidOutB Tryz.prog=true:=by kernel_rfl
abbrev uX : List (String × DataW Unit) := [("partbook/pitch.naturals", Rows.laid_partbook_pitch_naturals)]
theorem HD (os:Os) (args:Array Value):laidMetH Tryz.prog uX ((World.doorLaid Tryz.prog 4000 os).forCall (fun _ _=>0) ⟨#[],args,[]⟩).memory :=
 laidMetH_of_parts3 (fuel:=8) (laidMet_of_run' 8 (by kernel_rfl) (by kernel_rfl)) (by kernel_rfl) (by kernel_rfl)
theorem gNat : Tryz.prog.globalNamed "partbook/pitch.naturals" = some 0 := by kernel_rfl
theorem tNat:(Tryz.prog.globals[0]?).map (·.type)=some 310:=by kernel_rfl
theorem uNat:Tryz.prog.underlying 310=some (.array 7 3):=by kernel_rfl
theorem HE {W:World} (h:laidMetH Tryz.prog uX W):nw (bR W):=by
 rw[MakeChecks.laidMetH_plain _ _ _ (by kernel_rfl)] at h;obtain⟨ps,⟨g0,t0,cs0,f0,p0,q0,hg0,ht0,hv0,hd0,_⟩,_,_⟩:=h;obtain rfl:=Option.some.inj (gNat.symm.trans hg0);obtain rfl:=Option.some.inj (tNat.symm.trans ht0);obtain⟨xs,m1,hx0,hx1,hlen,hn3,hel⟩:=DataW.trod_array uNat hd0;have hm:xs.map (·.1)=[.lit (.int .i64 0),.lit (.int .i64 2),.lit (.int .i64 4),.lit (.int .i64 5),.lit (.int .i64 7),.lit (.int .i64 9),.lit (.int .i64 11)]:=by
  have:=congrArg Prod.fst hx1;simp only[Rows.laid_partbook_pitch_naturals,DataW.agg.injEq] at this;exact this.symm
 have key:∀j,j<7→∃k,cs0[j]? = some (.int .i64 k)∧(xs.map (·.1))[j]? = some (.lit (.int .i64 k)):=fun j hj=>by
  have h0:=hel j hj;rw[cn3,zD0,zA1 oM] at h0;obtain⟨k,e1,e2,_⟩:=DataW.trod_int lk3.sa h0;refine⟨k,?_,?_⟩
  · have:=congrArg (fun l=>l[0]?) e1;simpa using this
  · rw[zA3,zA1 oM,e2];rfl
 intro p hp j v hv;simp only[Gam,zA9] at hp;subst hp;dsimp only at hv ⊢;have hj:j<7:=by
  rcases nLg j 7 with h|h
  · exact h
  · rw[zA2 (by simpa using h)] at hv;cases hv
 obtain⟨k,h1,h2⟩:=key j hj;rw[hm] at h2;have hk:v=.int .i64 k:=by
  match j,hj,hv,h2 with
  |0,_,hv,h2|1,_,hv,h2|2,_,hv,h2|3,_,hv,h2|4,_,hv,h2|5,_,hv,h2|6,_,hv,h2=>simp at hv h2;rw[←hv,←h2]
 rw[hk];show W.cell? ⟨0,j,none⟩=_;rw[World.var?_cell hg0 hv0 j];exact h1
end Go.Proofs.YtmjdoencpjpegaaGreatDoor
