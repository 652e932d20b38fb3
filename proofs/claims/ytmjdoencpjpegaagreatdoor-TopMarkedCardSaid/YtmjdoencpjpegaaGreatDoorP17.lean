/- Parts of the proof. No statement is proved here. -/
import Derived.Test.YtmjdoencpjpegaaGreatDoorP12
import Derived.Test.YtmjdoencpjpegaaGreatDoorP13
set_option linter.unusedVariables false
set_option linter.unusedSimpArgs false
set_option maxHeartbeats 16000000
set_option maxRecDepth 20000
namespace Go.Proofs.YtmjdoencpjpegaaGreatDoor
open Go.Ab
attribute [local irreducible] AWP AOps EStep AQ PStep PRun PCall TCall VCall
def partAt (l:List Part) (id:Int):Int:=aX (fun b:Part=>b.id==id) l
def dO (l:List ag) (id:Int):Int:=aX (fun b:ag=>b.id==id) l
theorem AZ (l:List Part) (id:Int) (hl:l.length≤9223372036854775807):PCall Tryz.prog 28 [.sl 13 (l.map bt) .no,.int id] (.int (partAt l id)):=by
 refine PCall.body Tryz.func28 rfl rfl Tryz.ntmps28 rfl rfl ?_
 repeat' (first|refine qS ?_|apply sqW|refine rgK fun U V=>?_|(refine aN V ?_;clear V U)|refine blK ?_)
 refine lpW (ι:=Nat) (fun k=>[(0,.sl 13 (l.map bt) .no),(1,.int id),(5,.int k)]) (fun _=>[]) (fun k=>k≤l.length∧∀j,j<k→((l.getD j default).id==id)=false) (fun k=>l.length - k) 0 ⟨nZl _,fun j h=>absurd h oM⟩ ⟨rfl,rfl,rfl,tI⟩ rfl ?_;rintro k ⟨hk,aT⟩;by_cases hlt:k<l.length
 · repeat' (first|refine qT ?_|apply sqW|refine rgK fun U V=>?_|(refine aN V ?_;clear V U)|refine cX ?_ ?_<;>intro hc<;>try simp only[dE] at hc|refine blK ?_|refine exW ?_|refine skW ?_|refine rtW ?_)
   · refine⟨.inr rfl,Ent.int ?_⟩;exact(eP hlt hc aT).symm
   · exact⟨k+1,⟨oM,fun j hj=>bA aT hc hj⟩,oM,⟨rfl,rfl,rfl,tI⟩,rfl⟩
   · exfalso;omega
 · repeat' (first|refine qT ?_|apply sqW|refine rgK fun U V=>?_|(refine aN V ?_;clear V U)|refine cX ?_ ?_<;>intro hc<;>try simp only[dE] at hc|refine blK ?_|refine exW ?_|refine skW ?_|refine rtW ?_)
   all_goals (first|(exfalso;omega)|skip)
   refine⟨.inr rfl,Ent.int ?_⟩;exact(gq fun j hj=>aT j oM).symm
end Go.Proofs.YtmjdoencpjpegaaGreatDoor
namespace Go.Proofs.YtmjdoencpjpegaaGreatDoor
open Go.Ab
theorem ry {α:Type} [Inhabited α] {l:List α} {k:Nat} (h:k<l.length):l.take (k+1)=l.take k++[l.getD k default]:=by
 rw[zCu,aU h];simp[h]
end Go.Proofs.YtmjdoencpjpegaaGreatDoor
namespace Go.Proofs.YtmjdoencpjpegaaGreatDoor
open Go.Ab
attribute [local irreducible] AWP AOps EStep AQ PStep PRun PCall TCall VCall
def Db (a b:Bar):Bool:=a.id==b.id&&(a.len.n==b.len.n&&(a.len.d==b.len.d&&(a.key==b.key&&true)))
theorem Kz (a b:Bar):Db a b=(a==b):=by
 unfold Db;rw[zB3];obtain⟨a1,⟨a2,a3⟩,a4⟩:=a;obtain⟨b1,⟨b2,b3⟩,b4⟩:=b;simp[and_assoc]
theorem flBa:ml Tryz.prog 156=some [.int .i64,.int .i64,.int .i64,.int .i64]:=by kernel_rfl
end Go.Proofs.YtmjdoencpjpegaaGreatDoor
namespace Go.Proofs.YtmjdoencpjpegaaGreatDoor.Top
open Go.Ab Go.Jo Go.Sy Mk
attribute [local irreducible] AWP AOps EStep AQ PStep PRun PCall TCall VCall
def fN (e:Ev):List AV:=[.int e.clock,.int e.stand,.int e.kind,.int e.n,.int e.mark.id,.int e.mark.kind,.int e.mark.bn,.int e.mark.who.part,.int e.mark.who.cY,.int e.mark.who.iO,.int e.mark.version,.int e.mark.note,.int e.mark.value,.bs e.mark.text]
def fH (s:Std):List AV:=[.int s.id,.int s.who.part,.int s.who.cY,.int s.who.iO,.int s.ed,.int s.known,.sl 14 (s.evs.map fN) .no]
theorem rz (a b c:Int):PCall Tryz.prog 100 [.int a,.int b,.int c] (.b (inR a b c)):=by
 refine PCall.body Tryz.func100 rfl rfl Tryz.ntmps100 rfl rfl ?_
 repeat' (first|refine qS ?_|apply sqW|refine rgK fun U V=>?_|(refine aN V ?_;clear V U)|refine rtW ?_)
 exact⟨.inr rfl,Ent.b rfl⟩
theorem tJ (a:Int):PCall Tryz.prog 99 [.int a] (.b (cg a)):=by
 refine PCall.body Tryz.func99 rfl rfl Tryz.ntmps99 rfl rfl ?_
 repeat' (first|refine qP ?_ (h:=fun hg=>by first|exact ae|exact pc (rz _ _ _)|fail)|apply sqW|refine rgK fun U V=>?_|(refine aN V ?_;clear V U)|refine rtW ?_)
 exact⟨.inr rfl,Ent.b rfl⟩
theorem A0 (e:Ev) (ht:e.mark.text.length≤9223372036854775807):PCall Tryz.prog 50 [.agg (fN e)] (.b (gu e)):=by
 have v:=Mk.cH e.mark ht;refine PCall.body Tryz.func50 rfl rfl Tryz.ntmps50 rfl rfl ?_
 repeat' (first|refine qP ?_ (h:=fun hg=>by first|exact ae|exact pc v|exact pc (rz _ _ _)|exact pc (tJ _)|exact PRun.eqN flM rfl rfl nd rfl nd rfl|exact pbD ab rfl rfl nds|fail)|apply sqW|refine rgK fun U V=>?_|(refine aN V ?_;clear V U)|refine aB ?_|refine cX ?_ ?_<;>intro hc<;>try simp only[dE] at hc|refine blK ?_|refine skW ?_|refine rtW ?_)
 · refine⟨.inr rfl,Ent.b ?_⟩;refine Eq.trans (b:=(((e.n==0&&bc e.mark)&&inR e.clock 0 1000000000)&&cg e.stand)) rfl ?_;unfold gu;rw[if_pos (eq_of_beq hc)];cases inR e.clock 0 1000000000<;>cases cg e.stand<;>cases bc e.mark<;>cases e.n==0<;>rfl
 · rename_i h1;refine⟨.inr rfl,Ent.b ?_⟩;refine Eq.trans (b:=(((eqM e.mark noMark&&cg e.n)&&inR e.clock 0 1000000000)&&cg e.stand)) rfl ?_;unfold gu;rw[EV,if_neg (fun h=>by rw[h] at h1;cases h1),if_pos (eq_of_beq hc)];cases inR e.clock 0 1000000000<;>cases cg e.stand<;>cases cg e.n<;>cases e.mark==noMark<;>rfl
 · rename_i h1 h2;refine⟨.inr rfl,Ent.b ?_⟩;refine Eq.trans (b:=(((eqM e.mark noMark&&inR e.n 0 1000)&&inR e.clock 0 1000000000)&&cg e.stand)) rfl ?_;unfold gu;rw[EV,if_neg (fun h=>by rw[h] at h1;cases h1),if_neg (fun h=>by rw[h] at h2;cases h2),if_pos (eq_of_beq hc)];cases inR e.clock 0 1000000000<;>cases cg e.stand<;>cases inR e.n 0 1000<;>cases e.mark==noMark<;>rfl
 · rename_i h1 h2;refine⟨.inr rfl,Ent.b ?_⟩;refine Eq.trans (b:=((false&&inR e.clock 0 1000000000)&&cg e.stand)) rfl ?_;unfold gu;rw[if_neg (fun h=>by rw[h] at h1;cases h1),if_neg (fun h=>by rw[h] at h2;cases h2),if_neg (fun h=>by rw[h] at hc;cases hc)];cases inR e.clock 0 1000000000<;>cases cg e.stand<;>rfl
def pW (a b:Int):Int:=if a<b then -1 else if a>b then 1 else 0
theorem pX (a:Int):PCall Tryz.prog 155 [.int a] (.b false):=by
 refine PCall.body Tryz.func155 rfl rfl Tryz.ntmps155 rfl rfl ?_
 repeat' (first|refine qS ?_|apply sqW|refine rgK fun U V=>?_|(refine aN V ?_;clear V U)|refine rtW ?_)
 exact⟨.inr rfl,Ent.b sMp⟩
theorem gH (a b:Int):PCall Tryz.prog 102 [.int a,.int b] (.int (pW a b)):=by
 refine PCall.body Tryz.func102 rfl rfl Tryz.ntmps102 rfl rfl ?_
 repeat' (first|refine qP ?_ (h:=fun hg=>by first|exact ae|exact pc (pX _)|fail)|apply sqW|refine rgK fun U V=>?_|(refine aN V ?_;clear V U)|refine cX ?_ ?_<;>intro hc<;>try simp only[dE] at hc|refine skW ?_|refine rtW ?_)
 all_goals (first|(exfalso;simp_all;done)|skip)
 · exact⟨.inr rfl,Ent.int (by unfold pW;rw[if_pos oM])⟩
 · exact⟨.inr rfl,Ent.int (by unfold pW;rw[if_neg oM,if_pos oM])⟩
 · exact⟨.inr rfl,Ent.int (by unfold pW;rw[if_neg oM,if_neg oM])⟩
theorem LR (a b:Ev):orL [pW a.clock b.clock,pW a.stand b.stand]=tA a b:=by
 unfold orL orL orL pW tA;by_cases h1:a.clock<b.clock<;>by_cases h2:b.clock<a.clock<;>by_cases h3:a.stand<b.stand<;>by_cases h4:b.stand<a.stand<;>simp[h1,h2,h3,h4]
theorem Dc (a b:Ev):PCall Tryz.prog 51 [.agg (fN a),.agg (fN b)] (.int (tA a b)):=by
 have ho:=vX [pW a.clock b.clock,pW a.stand b.stand] sMp;rw[LR] at ho;have h1:=gH a.clock b.clock;have h2:=gH a.stand b.stand;refine PCall.body Tryz.func51 rfl rfl Tryz.ntmps51 rfl rfl ?_
 repeat' (first|refine qS ?_|apply sqW|refine rgK fun U V=>?_|(refine aN V ?_;clear V U)|refine aB ?_|refine rtW ?_|refine kD fun U V=>?_|(refine aqN (V _ ?_);clear V U)|refine aqQ rfl rfl (fun hg=>by first|exact ae|exact pc h1|exact pc h2|exact pbS ab rfl rfl nds|exact pc ho|fail) (by exact rfl) ?_)
 exact⟨.inr rfl,Ent.int rfl⟩
theorem Hv {e:Ev} (h:gu e=true):e.mark.text.length≤200:=by
 by_cases hk:e.kind=1
 · unfold gu at h;rw[if_pos hk] at h;simp only[zA0,bc] at h;exact(pN.1 h.2.1.1.1.1.1.1.1.1).1
 · have hm:e.mark=noMark:=by
    simp only[gu,hk,if_false,zA0] at h;obtain⟨_,h⟩:=h;split at h
    · simp at h;exact h.2
    · split at h
      · simp at h;exact h.2
      · simp at h
   rw[hm];exact nZl _
def Txt (l:List Ev):Prop:=∀e∈l,e.mark.text.length≤9223372036854775807
theorem Txt.at {l:List Ev} (h:Txt l) {k:Nat} (hk:k<l.length):(l.getD k default).mark.text.length≤9223372036854775807:=h _ (by rw[gV hk];exact lGm hk)
theorem Txt.of {l:List Ev} (h:∀e∈l,gu e=true):Txt l:=fun e he=>by have:=Hv (h e he);omega
theorem Fe {l:List Ev} {k:Nat} (hk:k<l.length) (h:gu (l.getD k default)=false):dL l=false:=by
 cases hv:dL l with
 |false=>rfl
 | true =>
   have:=(fl.1 hv).1 (l.getD k default) (by rw[gV hk];exact lGm hk);rw[h] at this;cases this
theorem Dd {l:List Ev} {k:Nat} (hk:k<l.length) (h:¬Srt (l.take (k+1))):dL l=false:=by
 cases hv:dL l with
 |false=>rfl
 |true=>exact absurd ((fl.1 hv).2.1.sublist (zE1 _ _)) h
theorem Df {l:List Ev} (h:∀j,j<l.length→gu (l.getD j default)=true) (hs:Srt (l.take l.length)):dL l=decide ((l.length:Int)≤20000):=by
 rw[zB2] at hs;have h1:∀e∈l,gu e=true:=fun e he=>by
  obtain⟨j,hj,rfl⟩:=zB9.1 he;rw[←gV hj];exact h j hj
 rw[zB3,fl,dEt];constructor
 · rintro⟨_,_,h3⟩;omega
 · intro h3;exact⟨h1,hs,oM⟩
theorem rA (l:List Ev) (ht:Txt l) (hl:l.length≤1000000000):PCall Tryz.prog 24 [.sl 14 (l.map fN) .no] (.b (dL l)):=by
 refine PCall.body Tryz.func24 rfl rfl Tryz.ntmps24 rfl rfl ?_
 repeat' (first|refine qT ?_|apply sqW|refine rgK fun U V=>?_|(refine aN V ?_;clear V U)|refine blK ?_)
 refine lpD (ι:=Nat) (fun k=>[(0,.sl 14 (l.map fN) .no),(5,.sl 14 (l.map fN) .no),(6,.int l.length),(7,.int k)]) (fun _=>[]) (fun k=>k≤l.length∧(∀j,j<k→gu (l.getD j default)=true)∧Srt (l.take k)) (fun k=>l.length - k) 0 (fun _=>rfl) 0 ⟨nZl _,fun j h=>absurd h oM,by rw[List.take_zero];exact List.Pairwise.nil⟩ ⟨rfl,rfl,rfl,rfl,tI⟩ rfl (fun _ _=>rfl) (fun _ _=>rfl) ?_;rintro k ⟨hk,aT,hs⟩;by_cases hlt:k<l.length
 · have v:=A0 (l.getD k default) (ht.at hlt);cases hev:gu (l.getD k default) with
   | false =>
     have hn:=Fe hlt hev;rw[hev] at v
     repeat' (first|refine qP ?_ (h:=fun hg=>by first|exact piW ab rfl rfl nd rfl nd rfl rfl ⟨zD7 _,Int.ofNat_lt.2 hlt⟩|exact ae|exact ah)|apply sqW|refine rgK fun U V=>?_|(refine aN V ?_;clear V U)|refine aS ?_|refine aA ?_|refine cX ?_ ?_<;>intro hc<;>try simp only[dE] at hc|refine blK ?_|refine exW ?_|refine skW ?_|refine rtW ?_|refine kD fun U V=>?_|(refine aqN (V _ ?_);clear V U)|refine aqQ rfl rfl (fun hg=>by first|exact ae|exact pc v|exact(Bool.noConfusion (show false=true from hg):PRun _ _ _ _ (.b false))|fail) (by exact rfl) ?_)
     all_goals first|(exfalso;omega)|skip
     · exact⟨.inr rfl,Ent.b hn.symm⟩
     · exfalso;simp at hc
   | true =>
     rw[hev] at v;have Jp:∀j,j<k+1→gu (l.getD j default)=true:=fun j hj=>bA aT hev hj
     have hst:=Hk hlt;by_cases h0:k=0
     · subst h0;have hs1:Srt (l.take (0+1)):=hst.2 ⟨hs,fun h=>absurd h oM⟩
       repeat' (first|refine qP ?_ (h:=fun hg=>by first|exact piW ab rfl rfl nd rfl nd rfl rfl ⟨zD7 _,Int.ofNat_lt.2 hlt⟩|exact ae|exact ah)|apply sqW|refine rgK fun U V=>?_|(refine aN V ?_;clear V U)|refine aS ?_|refine aA ?_|refine cX ?_ ?_<;>intro hc<;>try simp only[dE] at hc|refine blK ?_|refine exW ?_|refine skW ?_|refine rtW ?_|refine kD fun U V=>?_|(refine aqN (V _ ?_);clear V U)|refine aqQ rfl rfl (fun hg=>by first|exact ae|exact pc v|exact(Bool.noConfusion (show false=true from hg):PRun _ _ _ _ (.b false))|fail) (by exact rfl) ?_)
       all_goals first|(exfalso;omega)|skip
       · exfalso;simp at hc
       · exact⟨0+1,⟨oM,Jp,hs1⟩,oM,⟨rfl,rfl,rfl,rfl,tI⟩,rfl⟩
     · have e1:((k:Int) - 1).toNat=k - 1:=oM;have w:=Dc (l.getD (k - 1) default) (l.getD k default);rw[←e1] at w;have hg0:decide (((k:Nat):Int)>0)=true:=by simp;omega
       repeat' (first|refine qP ?_ (h:=fun hg=>by first|exact piW ab rfl rfl nd rfl nd rfl rfl ⟨oM,oM⟩|exact ae|exact ah)|apply sqW|refine rgK fun U V=>?_|(refine aN V ?_;clear V U)|refine aS ?_|refine aA ?_|refine cX ?_ ?_<;>intro hc<;>try simp only[dE] at hc|refine blK ?_|refine exW ?_|refine skW ?_|refine rtW ?_|refine kD fun U V=>?_|(refine aqN (V _ ?_);clear V U)|refine aqQ rfl rfl (fun hg=>by first|exact piW ab rfl rfl nd rfl nd rfl rfl ⟨oM,oM⟩|exact ae|exact pc v|exact pc w|fail) (by exact rfl) ?_)
       all_goals first|(exfalso;omega)|skip
       · refine⟨.inr rfl,Ent.b ?_⟩;rw[Dd hlt];intro hS;have h9:=(hst.1 hS).2 oM;rw[←BU,←e1] at h9;generalize tA (l.getD ((k:Int) - 1).toNat default) (l.getD k default)=q at hc h9;simp at hc;omega
       · refine⟨k+1,⟨oM,Jp,hst.2 ⟨hs,fun _=>BU.1 ?_⟩⟩,oM,⟨rfl,rfl,rfl,rfl,tI⟩,rfl⟩;rw[←e1];generalize tA (l.getD ((k:Int) - 1).toNat default) (l.getD k default)=q at hc ⊢;simp at hc;omega
 · obtain rfl:k=l.length:=oM
   repeat' (first|refine qT ?_|apply sqW|refine rgK fun U V=>?_|(refine aN V ?_;clear V U)|refine aS ?_|refine aA ?_|refine cX ?_ ?_<;>intro hc<;>try simp only[dE] at hc|refine blK ?_|refine exW ?_|refine skW ?_|refine rtW ?_|refine kD fun U V=>?_|refine aqQ rfl rfl (fun hg=>by exact ae) (by exact rfl) ?_)
   all_goals first|(exfalso;omega)|skip
   exact⟨.inr rfl,Ent.b (Df aT hs).symm⟩
def jD (l:List Ev) (id:Int):Int×Int:=if (dL l&&cg id)=true then (jB l id,0) else (0,1)
theorem Dg {l:List Ev} {k:Nat} (hk:k<l.length) (id:Int):jB (l.take (k+1)) id=if (l.getD k default).kind=3∧(l.getD k default).stand=id then max (jB (l.take k) id) (l.getD k default).n else jB (l.take k) id:=by
 rw[gV hk,zBe hk,E1];rfl
theorem A1 (l:List Ev) (id:Int) (ht:Txt l) (hl:l.length≤1000000000):PCall Tryz.prog 80 [.sl 14 (l.map fN) .no,.int id] (.tup [.int (jD l id).1,.int (jD l id).2]):=by
 have v:=rA l ht hl;cases hb:(dL l&&cg id) with
 | false =>
   have e1:jD l id=(0,1):=by unfold jD;rw[hb];rfl
   rw[e1];refine PCall.body Tryz.func80 rfl rfl Tryz.ntmps80 rfl rfl ?_
   repeat' (first|refine qP ?_ (h:=fun hg=>by first|exact ae|exact pc v|exact pc (tJ _)|exact ah)|apply sqW|refine rgK fun U V=>?_|(refine aN V ?_;clear V U)|refine cX ?_ ?_<;>intro hc<;>try simp only[dE] at hc|refine blK ?_|refine skW ?_|refine rtW ?_)
   · exact⟨.inr rfl,Ent.of rfl⟩
   exfalso;revert hc hb;cases dL l<;>cases cg id<;>simp
 | true =>
   have e1:jD l id=(jB l id,0):=by unfold jD;rw[hb];rfl
   rw[e1];refine PCall.body Tryz.func80 rfl rfl Tryz.ntmps80 rfl rfl ?_
   repeat' (first|refine qP ?_ (h:=fun hg=>by first|exact ae|exact pc v|exact pc (tJ _)|exact ah)|apply sqW|refine rgK fun U V=>?_|(refine aN V ?_;clear V U)|refine cX ?_ ?_<;>intro hc<;>try simp only[dE] at hc|refine blK ?_|refine skW ?_|refine rtW ?_)
   · exfalso;revert hc hb;cases dL l<;>cases cg id<;>simp
   refine lpD (ι:=Nat) (fun k=>[(1,.int id),(6,.int (jB (l.take k) id)),(17,.sl 14 (l.map fN) .no),(18,.int l.length),(19,.int k)]) (fun _=>[]) (fun k=>k≤l.length) (fun k=>l.length - k) 0 (fun _=>rfl) 0 (nZl _) ⟨rfl,rfl,rfl,rfl,rfl,tI⟩ rfl (fun _ _=>rfl) (fun _ _=>rfl) ?_;rintro k hk;by_cases hlt:k<l.length
   · have hs:=Dg hlt id
     repeat' (first|refine qT ?_|apply sqW|refine rgK fun U V=>?_|(refine aN V ?_;clear V U)|refine aS ?_|refine aA ?_|refine cX ?_ ?_<;>intro hc<;>try simp only[dE] at hc|refine blK ?_|refine exW ?_|refine skW ?_|refine rtW ?_)
     all_goals first|(exfalso;omega)|skip
     · refine⟨k+1,oM,oM,⟨rfl,?_,rfl,rfl,rfl,tI⟩,rfl⟩;rw[hs,if_pos (by simpa using hc)];rfl
     · refine⟨k+1,oM,oM,⟨rfl,?_,rfl,rfl,rfl,tI⟩,rfl⟩;rw[hs,if_neg (by simpa using hc)];rfl
   · obtain rfl:k=l.length:=oM
     repeat' (first|refine qT ?_|apply sqW|refine rgK fun U V=>?_|(refine aN V ?_;clear V U)|refine aS ?_|refine aA ?_|refine cX ?_ ?_<;>intro hc<;>try simp only[dE] at hc|refine blK ?_|refine exW ?_|refine skW ?_|refine rtW ?_)
     all_goals first|(exfalso;omega)|skip
     refine⟨.inr rfl,Ent.of ?_⟩;rw[zB2];rfl
theorem eH (a b c:Int):PCall Tryz.prog 78 [.int a,.int b,.int c] (.b (inR a b c)):=by
 refine PCall.body Tryz.func78 rfl rfl Tryz.ntmps78 rfl rfl ?_
 repeat' (first|refine qS ?_|apply sqW|refine rgK fun U V=>?_|(refine aN V ?_;clear V U)|refine rtW ?_)
 exact⟨.inr rfl,Ent.b rfl⟩
theorem Ff (r:Rdr):PCall Tryz.prog 79 [.agg (cQ r)] (.b (cu r)):=by
 refine PCall.body Tryz.func79 rfl rfl Tryz.ntmps79 rfl rfl ?_
 repeat' (first|refine qP ?_ (h:=fun hg=>by first|exact ae|exact pc (eH _ _ _)|fail)|apply sqW|refine rgK fun U V=>?_|(refine aN V ?_;clear V U)|refine aB ?_|refine rtW ?_)
 exact⟨.inr rfl,Ent.b rfl⟩
theorem Fg (s:Std):jC s=(cg s.ed&&cu s.who&&inR s.known 0 1000&&decide ((jD s.evs s.id).2=0)&&decide ((jD s.evs s.id).1≤s.known)):=by
 unfold jC jD;cases h:(dL s.evs&&cg s.id)<;>simp
theorem dy (s:Std) (ht:Txt s.evs) (hl:s.evs.length≤1000000000):PCall Tryz.prog 38 [.agg (fH s)] (.b (jC s)):=by
 have v:=A1 s.evs s.id ht hl;have w:=Ff s.who;rw[Fg];generalize jD s.evs s.id=K at *;refine PCall.body Tryz.func38 rfl rfl Tryz.ntmps38 rfl rfl ?_
 repeat' (first|refine qP ?_ (h:=fun hg=>by first|exact ae|exact pc v|exact pc w|exact pc (eH _ _ _)|fail)|apply sqW|refine rgK fun U V=>?_|(refine aN V ?_;clear V U)|refine aB ?_|refine cX ?_ ?_<;>intro hc<;>try simp only[dE] at hc|refine skW ?_|refine rtW ?_)
 · refine⟨.inr rfl,Ent.b ?_⟩;revert hc;show((!inR s.ed 1 1000000||!cu s.who)||!inR s.known 0 1000)=true→_;unfold cg;cases inR s.ed 1 1000000<;>cases cu s.who<;>cases inR s.known 0 1000<;>simp
 · refine⟨.inr rfl,Ent.b ?_⟩;revert hc;show((!inR s.ed 1 1000000||!cu s.who)||!inR s.known 0 1000)=false→_;unfold cg;cases inR s.ed 1 1000000<;>cases cu s.who<;>cases inR s.known 0 1000<;>simp;show(K.2==0&&decide (K.1≤s.known))=_;by_cases h0:K.2=0<;>simp[h0]
end Go.Proofs.YtmjdoencpjpegaaGreatDoor.Top
