/- Parts of the proof. No statement is proved here. -/
import Derived.Test.YthiaimakjmhegaaGreatDoorP20
import Derived.Test.YthiaimakjmhegaaGreatDoorP24
set_option linter.unusedVariables false
set_option linter.unusedSimpArgs false
set_option maxHeartbeats 16000000
set_option maxRecDepth 20000
namespace Go.Proofs.YthiaimakjmhegaaGreatDoor.De
open Go.Ab Go.Pl Pl
attribute [local irreducible] AWP AOps EStep AQ PStep PRun PCall TCall VCall
def eO (t:Tm):List AV:=[.int t.bar,.int t.q.n,.int t.q.d]
def aU (w:aV):List AV:=[.int w.score.version,.sl 4 (w.score.bars.map cS) .no,.sl 13 (w.score.parts.map bz) .no,.sl 12 (w.score.notes.map bQ) .no,
 .int w.form.bars,.sl 3 (w.form.ar.map ba) .no,.sl 3 (w.form.ends.map ck) .no,.int w.form.jump.at_,.int w.form.jump.to,.int w.form.jump.ch,.sl 3 (w.form.cuts.map aM) .no,.sl 3 (w.gK.map eO) .no]
def bx (d:Dec):List AV:=[.int d.number,.int d.time,.int d.kind,.int d.a,.int d.b,.int d.c]
structure WIn (w:aV):Prop where
 form:FIn w.form
 score:w.score.Small
theorem rr (n:Int):PCall Tryz.prog 46 [.int n] (.b (jV n)):=by
 refine PCall.body Tryz.func46 rfl rfl Tryz.ntmps46 rfl rfl ?_
 repeat' (first|refine qS ?_|apply sqW|refine rgK fun U V=>?_|(refine aN V ?_;clear V U)|refine rtW ?_)
 exact⟨.inr rfl,Ent.b rfl⟩
theorem tJ (l:List aV) (fv:AV) (p:aV→Bool) (hp:∀x∈l,bF Tryz.prog fv [.agg (aU x)] (.b (p x))) (hl:l.length≤1000000000) :
 PCall Tryz.prog 229 [.sl 12 (l.map aU) .no,fv] (.int (az p l)):=by
 refine PCall.di [1] Tryz.func229 rfl rfl Tryz.ntmps229 rfl rfl ?_
 repeat' (first|refine qT ?_|apply sqW|refine rgK fun U V=>?_|(refine aN V ?_;clear V U)|refine blK ?_)
 refine lpW (ι:=Nat) (fun k=>[(0,.sl 12 (l.map aU) .no),(1,.ext fv),(7,.int l.length),(8,.int k)]) (fun _=>[]) (fun k=>k≤l.length∧∀j,j<k→p (l.getD j default)=false) (fun k=>l.length - k) 0 ⟨nZl _,fun j h=>absurd h oM⟩ ⟨rfl,rfl,rfl,rfl,tI⟩ rfl ?_;rintro k ⟨hk,au⟩;by_cases hlt:k<l.length
 · repeat' (first|refine qP ?_ (h:=fun hg=>by first|exact aa|exact PRun.fx (hp _ (bD hlt)) rfl rfl nd rfl nds|exact af)|apply sqW|refine rgK fun U V=>?_|(refine aN V ?_;clear V U)|refine cX ?_ ?_<;>intro hc<;>try simp only[dE] at hc|refine blK ?_|refine exW ?_|refine skW ?_|refine rtW ?_)
   · refine⟨.inr rfl,?_⟩;rw[show az p l=k from bP hlt hc au];exact fun _ _ h=>h
   · exact⟨k+1,⟨oM,fun j hj=>aH au hc hj⟩,oM,⟨rfl,rfl,rfl,rfl,tI⟩,rfl⟩
   · exfalso;omega
 · repeat' (first|refine qT ?_|apply sqW|refine rgK fun U V=>?_|(refine aN V ?_;clear V U)|refine cX ?_ ?_<;>intro hc<;>try simp only[dE] at hc|refine blK ?_|refine exW ?_|refine skW ?_|refine rtW ?_)
   · exfalso;omega
   · refine⟨.inr rfl,?_⟩;rw[show az p l = -1 from bX fun j hj=>au j oM];exact fun _ _ h=>h
theorem tK (a b:Int):(a != b)=decide (a≠b):=zAi.2 sMp
def mJ (l:List aV):Nat→Int
 |0=>0
 |k+1=>(l.getD k default).score.version
theorem yL {l:List aV} {k:Nat} (h:k<l.length):gk (mJ l k) (l.drop k)=(l9 (mJ l k) (l.getD k default)&&gk (mJ l (k+1)) (l.drop (k+1))):=by
 rw[fq h];rfl
theorem wj (l:List aV) (hl:l.length≤1000000000) (hw:∀w∈l,WIn w):PCall Tryz.prog 109 [.sl 12 (l.map aU) .no] (.b (cC l)):=by
 refine PCall.body Tryz.func109 rfl rfl Tryz.ntmps109 rfl rfl ?_
 repeat' (first|refine qT ?_|apply sqW|refine rgK fun U V=>?_|(refine aN V ?_;clear V U)|refine blK ?_)
 refine lpD (ι:=Nat) (fun k=>[(0,.sl 12 (l.map aU) .no),(3,.int (mJ l k)),(6,.sl 12 (l.map aU) .no),(7,.int l.length),(8,.int k)]) (fun _=>[]) (fun k=>k≤l.length∧gk 0 l=gk (mJ l k) (l.drop k)) (fun k=>l.length - k) 0 (fun _=>rfl) 0 ⟨nZl _,rfl⟩ ⟨rfl,rfl,rfl,rfl,rfl,tI⟩ rfl (fun _ _=>rfl) (fun _ _=>rfl) ?_;rintro k ⟨hk,hinv⟩;by_cases hlt:k<l.length
 · have e1:=yL hlt;obtain⟨w,hwk⟩:∃w,l.getD k default=w:=⟨_,rfl⟩
   have hin:=hw w (hwk▸bD hlt);have hv:=gD w.form hin.form;have el:mJ l (k+1)=w.score.version:=hwk▸rfl;rw[hwk,el] at e1
   repeat' (first|refine qP ?_ (h:=fun hg=>by first|exact iX aU l ((k:Nat):Int) hwk (hb:=oM)|exact aa|exact pc hv|exact af)|apply sqW|refine rgK fun U V=>?_|(refine aN V ?_;clear V U)|refine aS ?_|refine aA ?_|refine cX ?_ ?_<;>intro hc<;>try simp only[dE] at hc|refine blK ?_|refine exW ?_|refine skW ?_|refine rtW ?_)
   all_goals first|(exfalso;omega)|skip
   · have hb:l9 (mJ l k) w=false:=by
      unfold l9;rw[zBc,←tK];exact hc
     refine⟨.inr rfl,Ent.b ?_⟩;unfold cC;rw[hinv,e1,hb];rfl
   · have hb:l9 (mJ l k) w=true:=by
      unfold l9;rw[zB3,←tK];exact hc
     rw[hb,zAy,←el] at e1;exact⟨k+1,⟨hlt,hinv.trans e1⟩,oM,⟨rfl,by rw[el];rfl,rfl,rfl,rfl,tI⟩,rfl⟩
 · obtain rfl:k=l.length:=oM;have e2:gk 0 l=true:=by rw[hinv,List.drop_length];rfl
   repeat' (first|refine qT ?_|apply sqW|refine rgK fun U V=>?_|(refine aN V ?_;clear V U)|refine aS ?_|refine aA ?_|refine cX ?_ ?_<;>intro hc<;>try simp only[dE] at hc|refine blK ?_|refine exW ?_|refine skW ?_|refine rtW ?_)
   all_goals first|(exfalso;omega)|skip
   refine⟨.inr rfl,Ent.b ?_⟩;unfold cC;rw[e2,zAy];congr 1<;>exact decide_eq_decide.2 oM
end Go.Proofs.YthiaimakjmhegaaGreatDoor.De
namespace Go.Proofs.YthiaimakjmhegaaGreatDoor.Top
open Go.Ab Go.Pl De Pl
attribute [local irreducible] AWP AOps EStep AQ PStep PRun PCall TCall VCall
instance:Inhabited Tm:=⟨⟨0,⟨0,0⟩⟩⟩
def lK (r:Rat):Bool:=dj r&&decide (r.n>0)&&decide (r.n≤10 * r.d)&&(Int.tmod 60 r.d==0)
theorem yM (r:Rat):PCall Tryz.prog 212 [.agg (oo r)] (.b (lK r)):=by
 have v:=fN r;have hd:dj r=true→r.d≠0:=fun h=>by have:=cL.1 h;omega
 by_cases hr:dj r=true
 · have hb:=cL.1 hr;refine PCall.body Tryz.func212 rfl rfl Tryz.ntmps212 rfl rfl ?_
   repeat' (first|refine qP ?_ (h:=fun hg=>by first|exact aa|exact pc v|fail)|apply sqW|refine rgK fun U V=>?_|(refine aN V ?_;clear V U)|refine aB ?_|refine rtW ?_)
   exact⟨.inr rfl,Ent.b rfl⟩
 · have hr':dj r=false:=by cases h:dj r<;>simp_all
   have e:lK r=false:=by unfold lK;rw[hr'];rfl
   rw[hr'] at v;rw[e];refine PCall.body Tryz.func212 rfl rfl Tryz.ntmps212 rfl rfl ?_
   repeat' (first|refine qP ?_ (h:=fun hg=>by first|exact aa|exact pc v|fail)|apply sqW|refine rgK fun U V=>?_|(refine aN V ?_;clear V U)|refine aB ?_|refine rtW ?_)
   exact⟨.inr rfl,Ent.b rfl⟩
def uL (bars:List Bar) (l:List Tm) (k:Nat):Bool:=lK (l.getD k default).q&&decide ((l.getD k default).bar<(bars.length:Int))&&(decide (k=0)||decide ((l.getD (k - 1) default).bar<(l.getD k default).bar))
def fQ (bars:List Bar) (l:List Tm):Bool:=dQ bars&&decide (0<l.length)&&decide (l.length≤1000)&&((l.getD 0 default).bar==0)&&(List.range l.length).all (uL bars l)
theorem zX (bars:List Bar) (l:List Tm) (hb:bars.length≤1000000000) (hl:l.length≤1000000000):PCall Tryz.prog 150 [.sl 4 (bars.map cS) .no,.sl 3 (l.map eO) .no] (.b (fQ bars l)):=by
 have v:=iR bars oM;cases hbo:dQ bars with
 | false =>
   rw[hbo] at v;rw[show fQ bars l=false from by unfold fQ;rw[hbo];rfl];refine PCall.body Tryz.func150 rfl rfl Tryz.ntmps150 rfl rfl ?_
   repeat' (first|refine qP ?_ (h:=fun hg=>by first|exact aa|exact pc v|exact(Bool.noConfusion (show false=true from hg):PRun _ _ _ _ (.b false))|exact af)|apply sqW|refine rgK fun U V=>?_|(refine aN V ?_;clear V U)|refine cX ?_ ?_<;>intro hc<;>try simp only[dE] at hc|refine blK ?_|refine skW ?_|refine rtW ?_)
   · exact⟨.inr rfl,Ent.b rfl⟩
   all_goals (exfalso;simp at hc;done)
 | true =>
   rw[hbo] at v;by_cases h0:l.length=0
   · obtain rfl:=zDc.1 h0;rw[show fQ bars []=false from by unfold fQ;simp];refine PCall.body Tryz.func150 rfl rfl Tryz.ntmps150 rfl rfl ?_
     repeat' (first|refine qP ?_ (h:=fun hg=>by first|exact aa|exact pc v|exact(Bool.noConfusion (show false=true from hg):PRun _ _ _ _ (.b false))|exact af)|apply sqW|refine rgK fun U V=>?_|(refine aN V ?_;clear V U)|refine cX ?_ ?_<;>intro hc<;>try simp only[dE] at hc|refine blK ?_|refine skW ?_|refine rtW ?_)
     · exact⟨.inr rfl,Ent.b rfl⟩
     all_goals (exfalso;simp at hc;done)
   obtain⟨x,hx⟩:∃x,l.getD 0 default=x:=⟨_,rfl⟩
   refine PCall.body Tryz.func150 rfl rfl Tryz.ntmps150 rfl rfl ?_
   repeat' (first|refine qP ?_ (h:=fun hg=>by first|exact iX eO l (0:Int) hx (hb:=oM)|exact aa|exact pc v|exact af)|apply sqW|refine rgK fun U V=>?_|(refine aN V ?_;clear V U)|refine cX ?_ ?_<;>intro hc<;>try simp only[dE] at hc|refine blK ?_|refine skW ?_|refine rtW ?_)
   · refine⟨.inr rfl,Ent.b (Eq.symm ?_)⟩;have h9:(((!true||decide ((l.length:Int)=0))||decide ((l.length:Int)>1000))||x.bar != 0)=true:=hc;unfold fQ;rw[hx];simp only[zDu,zCx,zC5,dEt,bne_iff_ne] at h9;rcases h9 with (h9|h9)|h9
     · omega
     · rw[decide_eq_false (p:=l.length≤1000) oM];simp
     · rw[show(x.bar==0)=false from by simpa using h9];simp
   have tL:(decide (0<l.length)&&decide (l.length≤1000)&&(x.bar==0))=true:=by
    have h9:(((!true||decide ((l.length:Int)=0))||decide ((l.length:Int)>1000))||x.bar != 0)=false:=hc;simp only[zDu,zCx,zAg,dEf,bne_eq_false_iff_eq] at h9;simp only[zA0,dEt,beq_iff_eq];omega
   have dX:fQ bars l=(List.range l.length).all (uL bars l):=by
    unfold fQ;rw[hbo,hx];rw[show(true&&decide (0<l.length)&&decide (l.length≤1000)&&(x.bar==0))=true from by rw[zAy];exact tL,zAy]
   clear hc v hx tL;refine lpD (ι:=Nat) (fun k=>[(0,.sl 4 (bars.map cS) .no),(1,.sl 3 (l.map eO) .no),(27,.sl 3 (l.map eO) .no),(28,.int l.length),(29,.int k)]) (fun _=>[]) (fun k=>k≤l.length∧∀j,j<k→uL bars l j=true) (fun k=>l.length - k) 0 (fun _=>rfl) 0 ⟨nZl _,fun j h=>absurd h oM⟩ ⟨rfl,rfl,rfl,rfl,rfl,tI⟩ rfl (fun _ _=>rfl) (fun _ _=>rfl) ?_;rintro k ⟨hk,au⟩;by_cases hlt:k<l.length
   · obtain⟨y,hy⟩:∃y,l.getD k default=y:=⟨_,rfl⟩
     have ht:=yM y.q;have htp:uL bars l k=(lK y.q&&decide (y.bar<(bars.length:Int))&&(decide (k=0)||decide ((l.getD (k - 1) default).bar<y.bar))):=by unfold uL;rw[hy]
     have bad:uL bars l k=false→fQ bars l=false:=fun h=>by
      rw[dX,zC6];exact⟨k,zAs.2 hlt,by rw[h];decide⟩
     cases hto:lK y.q with
     | false =>
       rw[hto] at ht htp
       repeat' (first|refine qP ?_ (h:=fun hg=>by first|exact iX eO l ((k:Nat):Int) hy (hb:=oM)|exact aa|fail)|apply sqW|refine rgK fun U V=>?_|(refine aN V ?_;clear V U)|refine aS ?_|refine aA ?_|refine cX ?_ ?_<;>intro hc<;>try simp only[dE] at hc|refine blK ?_|refine exW ?_|refine skW ?_|refine rtW ?_|refine kD fun U V=>?_|(refine aqN (V _ ?_);clear V U)|refine aqQ rfl rfl (fun hg=>by first|exact aa|exact pc ht|exact(Bool.noConfusion (show false=true from hg):PRun _ _ _ _ (.b false))|fail) (by exact rfl) ?_)
       all_goals (first|exact dd|skip)
       exact⟨.inr rfl,Ent.b (Eq.symm (bad htp))⟩
     | true =>
       rw[hto] at ht htp;by_cases hb1:y.bar<(bars.length:Int)
       · rw[decide_eq_true hb1,zAy,zAy] at htp;by_cases h0:k=0
         · rw[decide_eq_true h0,Bool.true_or] at htp
           repeat' (first|refine qP ?_ (h:=fun hg=>by first|exact iX eO l ((k:Nat):Int) hy (hb:=oM)|exact aa|fail)|apply sqW|refine rgK fun U V=>?_|(refine aN V ?_;clear V U)|refine aS ?_|refine aA ?_|refine cX ?_ ?_<;>intro hc<;>try simp only[dE] at hc|refine blK ?_|refine exW ?_|refine skW ?_|refine rtW ?_|refine kD fun U V=>?_|(refine aqN (V _ ?_);clear V U)|refine aqQ rfl rfl (fun hg=>by first|exact PRun.eq (v:=.b (decide (((k:Nat):Int)>0))) (PRun.cZ rfl rfl nd rfl nd rfl) (show AV.b (decide (((k:Nat):Int)>0))=AV.b false from congrArg AV.b (decide_eq_false oM))|exact PRun.eq (v:=.b (decide (y.bar≥(bars.length:Int)))) (PRun.cZ rfl rfl nd rfl nd rfl) (show AV.b (decide (y.bar≥(bars.length:Int)))=AV.b false from congrArg AV.b (decide_eq_false oM))|exact aa|exact pc ht|exact(Bool.noConfusion (show false=true from hg):PRun _ _ _ _ (.b false))|exact af) (by exact rfl) ?_)
           all_goals (first|exact dd|skip)
           exact⟨k+1,⟨hlt,fun j hj=>aH au htp hj⟩,oM,⟨rfl,rfl,rfl,rfl,rfl,tI⟩,rfl⟩
         · obtain⟨p,hp⟩:∃p,l.getD (((k:Nat):Int) - 1).toNat default=p:=⟨_,rfl⟩
           have hp':l.getD (k - 1) default=p:=by rw[←hp];congr 1;omega
           rw[decide_eq_false h0,zCx,hp'] at htp
           repeat' (first|refine qP ?_ (h:=fun hg=>by first|exact iX eO l ((k:Nat):Int) hy (hb:=oM)|exact aa|fail)|apply sqW|refine rgK fun U V=>?_|(refine aN V ?_;clear V U)|refine aS ?_|refine aA ?_|refine cX ?_ ?_<;>intro hc<;>try simp only[dE] at hc|refine blK ?_|refine exW ?_|refine skW ?_|refine rtW ?_|refine kD fun U V=>?_|(refine aqN (V _ ?_);clear V U)|refine aqQ rfl rfl (fun hg=>by first|exact iX eO l (((k:Nat):Int) - 1) hp (hb:=oM)|exact PRun.eq (v:=.b (decide (((k:Nat):Int)>0))) (PRun.cZ rfl rfl nd rfl nd rfl) (show AV.b (decide (((k:Nat):Int)>0))=AV.b true from congrArg AV.b (decide_eq_true oM))|exact PRun.eq (v:=.b (decide (y.bar≥(bars.length:Int)))) (PRun.cZ rfl rfl nd rfl nd rfl) (show AV.b (decide (y.bar≥(bars.length:Int)))=AV.b false from congrArg AV.b (decide_eq_false oM))|exact aa|exact pc ht|exact af) (by exact rfl) ?_)
           all_goals (first|exact dd|skip)
           · refine⟨.inr rfl,Ent.b (Eq.symm (bad ?_))⟩;have h9:decide (y.bar≤p.bar)=true:=hc;rw[htp,decide_eq_false (by have:=of_decide_eq_true h9;omega)]
           · refine⟨k+1,⟨hlt,fun j hj=>aH au ?_ hj⟩,oM,⟨rfl,rfl,rfl,rfl,rfl,tI⟩,rfl⟩;have h9:decide (y.bar≤p.bar)=false:=hc;rw[htp,decide_eq_true (by have:=of_decide_eq_false h9;omega)]
       · rw[decide_eq_false hb1] at htp
         repeat' (first|refine qP ?_ (h:=fun hg=>by first|exact iX eO l ((k:Nat):Int) hy (hb:=oM)|exact aa|fail)|apply sqW|refine rgK fun U V=>?_|(refine aN V ?_;clear V U)|refine aS ?_|refine aA ?_|refine cX ?_ ?_<;>intro hc<;>try simp only[dE] at hc|refine blK ?_|refine exW ?_|refine skW ?_|refine rtW ?_|refine kD fun U V=>?_|(refine aqN (V _ ?_);clear V U)|refine aqQ rfl rfl (fun hg=>by first|exact PRun.eq (v:=.b (decide (y.bar≥(bars.length:Int)))) (PRun.cZ rfl rfl nd rfl nd rfl) (show AV.b (decide (y.bar≥(bars.length:Int)))=AV.b true from congrArg AV.b (decide_eq_true oM))|exact aa|exact pc ht|exact(Bool.noConfusion (show false=true from hg):PRun _ _ _ _ (.b false))|exact af) (by exact rfl) ?_)
         all_goals (first|exact dd|skip)
         exact⟨.inr rfl,Ent.b (Eq.symm (bad htp))⟩
   · obtain rfl:k=l.length:=oM
     repeat' (first|refine qT ?_|apply sqW|refine rgK fun U V=>?_|(refine aN V ?_;clear V U)|refine aS ?_|refine aA ?_|refine cX ?_ ?_<;>intro hc<;>try simp only[dE] at hc|refine blK ?_|refine exW ?_|refine skW ?_|refine rtW ?_|refine kD fun U V=>?_|refine aqQ rfl rfl (fun hg=>by exact aa) (by exact rfl) ?_)
     all_goals (first|exact dd|skip)
     refine⟨.inr rfl,Ent.b (Eq.symm ?_)⟩;rw[dX];exact zA4.2 fun j hj=>au j (zAs.1 hj)
end Go.Proofs.YthiaimakjmhegaaGreatDoor.Top
namespace Go.Ab
theorem PCall.H2 {P:Program} {f:FuncId} {sz:Nat} (pre post:List AV) {r:AV} (h:PCall P f (pre++.sl sz [] .no::post) r):PCall P f (pre++.nils::post) r:=by
 refine⟨h.1,fun M W vs hm ha=>h.2 M W vs hm ⟨by rw[ha.1];simp,fun i c hi=>?_⟩⟩;rcases Nat.lt_trichotomy i pre.length with g|g|g
 · rw[zA8 g] at hi;exact ha.2 i c (by rw[zA8 g];exact hi)
 · subst g;rw[zA7 (nLr _),Nat.sub_self] at hi;simp at hi;subst hi;have:=ha.2 pre.length .nils sMp;generalize vs.getD pre.length undef=y at this ⊢;cases this;exact .slz sz .no trivial
 · rw[zA7 oM] at hi;obtain⟨k,hk⟩:∃k,i - pre.length=k+1:=⟨i - pre.length - 1,oM⟩
   rw[hk] at hi;exact ha.2 i c (by rw[zA7 oM,hk];exact hi)
end Go.Ab
namespace Go.Proofs.YthiaimakjmhegaaGreatDoor.Top
open Go.Ab Go.Jo Go.Sy Go.Sort Go.Pl Al Mk Cy De Pl
attribute [local irreducible] AWP AOps EStep AQ PStep PRun PCall TCall VCall
theorem Jm {l:List Score} {n k:Nat} (hk:k<l.length) (h4:k≤4) (h:jT (l.getD k default)=false):oQ l n=false:=by
 unfold oQ;have:(l.take 5).all jT=false:=by
  rw[zC6];refine⟨l.getD k default,?_,by rw[h];decide⟩;rw[bb hk];exact zCd.2 ⟨k,oM,rfl⟩
 rw[this];rfl
theorem GZ {l:List Score} {n k:Nat} (hk:k=l.length∨k=5) (h:∀j,j<k→jT (l.getD j default)=true):oQ l n=(decide ((l.length:Int)≤4)&&decide ((n:Int)≤12)):=by
 unfold oQ;have:(l.take 5).all jT=true:=by
  rw[zA4];intro s hs;obtain⟨j,hj,rfl⟩:=zCd.1 hs;have:=h j oM;rwa [bb oM] at this
 rw[this,zAy]
theorem Cl (l:List Score) (hl:l.length≤9223372036854775807) (hsz:∀s∈l,s.qG) (ms:List Jo.Mark) (hms:ms.length≤9223372036854775807):PCall Tryz.prog 30 [.sl 4 (l.map bg) .no,.sl 10 (ms.map fG) .no] (.b (oQ l ms.length)):=by
 refine PCall.body Tryz.func30 rfl rfl Tryz.ntmps30 rfl rfl ?_
 repeat' (first|refine qS ?_|apply sqW|refine rgK fun U V=>?_|(refine aN V ?_;clear V U)|refine blK ?_)
 refine lpW (ι:=Nat) (fun k=>[(0,.sl 4 (l.map bg) .no),(1,.sl 10 (ms.map fG) .no),(5,.int k)]) (fun _=>[]) (fun k=>k≤l.length∧k≤5∧∀j,j<k→jT (l.getD j default)=true) (fun k=>l.length - k) 0 ⟨nZl _,nZl _,fun j h=>absurd h oM⟩ ⟨rfl,rfl,rfl,tI⟩ rfl ?_;rintro k ⟨hk,h5,au⟩;by_cases hlt:k<l.length∧k≤4
 · obtain⟨hlt,h4⟩:=hlt;obtain⟨s,hs⟩:∃s,l.getD k default=s:=⟨_,rfl⟩
   have hv:=B7 s (hsz s (by rw[←hs];exact dD hlt));cases ho:jT s with
   | false =>
     rw[ho] at hv
     repeat' (first|refine qP ?_ (h:=fun hg=>by first|exact iX bg l (((k):Nat):Int) hs (hb:=oM)|exact aa|exact pc hv|exact af)|apply sqW|refine rgK fun U V=>?_|(refine aN V ?_;clear V U)|refine cX ?_ ?_<;>intro hc<;>try simp only[dE] at hc|refine blK ?_|refine exW ?_|refine skW ?_|refine rtW ?_)
     all_goals (first|(exact⟨.inr rfl,Ent.b (Eq.symm (Jm hlt h4 (by rw[hs];exact ho)))⟩)|(exfalso;simp at hc;done)|(exfalso;simp at hc;omega))
   | true =>
     rw[ho] at hv
     repeat' (first|refine qP ?_ (h:=fun hg=>by first|exact iX bg l (((k):Nat):Int) hs (hb:=oM)|exact aa|exact pc hv|exact af)|apply sqW|refine rgK fun U V=>?_|(refine aN V ?_;clear V U)|refine cX ?_ ?_<;>intro hc<;>try simp only[dE] at hc|refine blK ?_|refine exW ?_|refine skW ?_|refine rtW ?_)
     all_goals (first|(exact⟨k+1,⟨oM,oM,fun j hj=>by
      rcases nLg j k with g|g
      · exact au j g
      · obtain rfl:j=k:=oM;rw[hs];exact ho⟩,oM,⟨rfl,rfl,rfl,tI⟩,rfl⟩)|(exfalso;simp at hc;done)|(exfalso;simp at hc;omega))
 · repeat' (first|refine qT ?_|apply sqW|refine rgK fun U V=>?_|(refine aN V ?_;clear V U)|refine cX ?_ ?_<;>intro hc<;>try simp only[dE] at hc|refine blK ?_|refine exW ?_|refine skW ?_|refine rtW ?_)
   all_goals (first|(exact⟨.inr rfl,Ent.b (Eq.symm (GZ (k:=k) oM au))⟩)|(exfalso;simp at hc;omega))
def nh (f:aG):Bool:=decide (f.bars≤60)&&decide ((f.ar.length:Int)≤110)&&decide ((f.ends.length:Int)≤60)&&decide ((f.cuts.length:Int)≤110)
structure tM (f:aG):Prop where
 ar:f.ar.length≤9223372036854775807
 ends:f.ends.length≤9223372036854775807
 cuts:f.cuts.length≤9223372036854775807
theorem vL (f:aG) (hz:tM f):PCall Tryz.prog 85 [.agg (aP f)] (.b (nh f)):=by
 obtain⟨h1,h2,h3⟩:=hz;refine PCall.body Tryz.func85 rfl rfl Tryz.ntmps85 rfl rfl ?_
 repeat' (first|refine qT ?_|apply sqW|refine rgK fun U V=>?_|(refine aN V ?_;clear V U)|refine aB ?_|refine rtW ?_)
 exact⟨.inr rfl,Ent.b rfl⟩
theorem Cm (s:Std) (hl:s.evs.length≤9223372036854775807):PCall Tryz.prog 34 [.agg (aR s)] (.b (decide ((s.evs.length:Int)≤30))):=by
 refine PCall.body Tryz.func34 rfl rfl Tryz.ntmps34 rfl rfl ?_
 repeat' (first|refine qT ?_|apply sqW|refine rgK fun U V=>?_|(refine aN V ?_;clear V U)|refine aB ?_|refine rtW ?_)
 exact⟨.inr rfl,Ent.b rfl⟩
abbrev bp (ws:List aV):List Score:=ws.map (·.score)
theorem sD {ws:List aV} {k:Nat} {w:aV} (hk:k<ws.length) (h:ws.getD k default=w):(bp (ws.take k)).map bg++[bg w.score]=(bp (ws.take (k+1))).map bg:=by
 have:ws.take (k+1)=ws.take k++[w]:=by rw[←h,bb hk];exact zBn hk
 rw[this];simp
def qo (ws:List aV) (ds:List Dec):Bool:=((ws.take 7).all fun w=>!(!nh w.form||decide ((w.score.bars.length:Int)>60)))&&(decide ((ws.length:Int)≤6)&&decide ((ds.length:Int)≤30))
theorem Jn {ws:List aV} {ds:List Dec} {k:Nat} (hk:k<ws.length) (h4:k≤6) (h:(!nh (ws.getD k default).form||decide (((ws.getD k default).score.bars.length:Int)>60))=true):qo ws ds=false:=by
 unfold qo;have:((ws.take 7).all fun w=>!(!nh w.form||decide ((w.score.bars.length:Int)>60)))=false:=by
  rw[zC6];refine⟨ws.getD k default,?_,by rw[h];decide⟩;rw[bb hk];exact zCd.2 ⟨k,oM,rfl⟩
 rw[this];rfl
theorem G0 {ws:List aV} {ds:List Dec} {k:Nat} (hk:k=ws.length∨k=7) (h:∀j,j<k→(!nh (ws.getD j default).form||decide (((ws.getD j default).score.bars.length:Int)>60))=false):qo ws ds=(decide ((ws.length:Int)≤6)&&decide ((ds.length:Int)≤30)):=by
 unfold qo;have:((ws.take 7).all fun w=>!(!nh w.form||decide ((w.score.bars.length:Int)>60)))=true:=by
  rw[zA4];intro s hs;obtain⟨j,hj,rfl⟩:=zCd.1 hs;have:=h j oM;rw[bb oM] at this;rw[this];rfl
 rw[this,zAy]
structure kU (w:aV):Prop where
 score:w.score.qG
 form:tM w.form
theorem Cn (ws:List aV) (hl:ws.length≤9223372036854775807) (hz:∀w∈ws,kU w) (ds:List Dec) (hd:ds.length≤9223372036854775807):PCall Tryz.prog 32 [.sl 12 (ws.map aU) .no,.sl 6 (ds.map bx) .no] (.b (qo ws ds)):=by
 refine PCall.body Tryz.func32 rfl rfl Tryz.ntmps32 rfl rfl ?_
 repeat' (first|refine qS ?_|apply sqW|refine rgK fun U V=>?_|(refine aN V ?_;clear V U)|refine blK ?_)
 refine lpW (ι:=Nat) (fun k=>[(0,.sl 12 (ws.map aU) .no),(1,.sl 6 (ds.map bx) .no),(5,.int k)]) (fun _=>[]) (fun k=>k≤ws.length∧k≤7∧∀j,j<k→(!nh (ws.getD j default).form||decide (((ws.getD j default).score.bars.length:Int)>60))=false) (fun k=>ws.length - k) 0 ⟨nZl _,nZl _,fun j h=>absurd h oM⟩ ⟨rfl,rfl,rfl,tI⟩ rfl ?_;rintro k ⟨hk,h5,au⟩;by_cases hlt:k<ws.length∧k≤6
 · obtain⟨hlt,h4⟩:=hlt;obtain⟨w,hw⟩:∃w,ws.getD k default=w:=⟨_,rfl⟩
   have hwz:=hz w (by rw[←hw];exact dD hlt);have hv:=vL w.form hwz.form;have hbl:=hwz.score.1
   repeat' (first|refine qP ?_ (h:=fun hg=>by first|exact iX aU ws ((k:Nat):Int) hw (hb:=oM)|exact aa|exact pc hv|exact af)|apply sqW|refine rgK fun U V=>?_|(refine aN V ?_;clear V U)|refine cX ?_ ?_<;>intro hc<;>try simp only[dE] at hc|refine blK ?_|refine exW ?_|refine skW ?_|refine rtW ?_)
   all_goals (first|(exact⟨.inr rfl,Ent.b (Eq.symm (Jn hlt h4 (by rw[hw];exact hc)))⟩)|(exact⟨k+1,⟨hlt,oM,fun j hj=>aH au (by rw[hw];exact hc) hj⟩,oM,⟨rfl,rfl,rfl,tI⟩,rfl⟩)|(exfalso;simp at hc;done)|(exfalso;simp at hc;omega))
 · have hke:k=ws.length∨k=7:=oM
   repeat' (first|refine qT ?_|apply sqW|refine rgK fun U V=>?_|(refine aN V ?_;clear V U)|refine cX ?_ ?_<;>intro hc<;>try simp only[dE] at hc|refine blK ?_|refine exW ?_|refine skW ?_|refine rtW ?_)
   all_goals (first|(exact⟨.inr rfl,Ent.b (Eq.symm (G0 hke au))⟩)|(exfalso;simp at hc;omega)|skip)
theorem wk (ws:List aV) (hl:ws.length≤1000000000000):PCall Tryz.prog 31 [.sl 12 (ws.map aU) .no] (.sl 4 ((bp ws).map bg) .no):=by
 refine PCall.body Tryz.func31 rfl rfl Tryz.ntmps31 rfl rfl ?_
 repeat' (first|refine qS ?_|apply sqW|refine rgK fun U V=>?_|(refine aN V ?_;clear V U)|refine blK ?_)
 refine AWP.iQ (d:=3) (sz:=4) rfl ?_
 refine lpD (ι:=Nat) (fun k=>[(0,.sl 12 (ws.map aU) .no),(3,.sl 4 ((bp (ws.take k)).map bg) (.own 0)),(4,.int k)]) (fun k=>[.own 4 ((bp (ws.take k)).map bg).length])
  (fun k=>k≤ws.length) (fun k=>ws.length - k) 1 (fun _=>rfl) 0 (nZl _) ⟨rfl,rfl,rfl,tI⟩ rfl (fun _ _=>rfl) (fun _ _=>rfl) ?_
 intro k hk;by_cases hlt:k<ws.length
 · obtain⟨w,hw⟩:∃w,ws.getD k default=w:=⟨_,rfl⟩
   have hst:=sD hlt hw;have hlen:((bp (ws.take k)).map bg).length=k:=by simp;omega
   generalize (bp (ws.take k)).map bg=A at *
   repeat' (first|refine qP ?_ (h:=fun hg=>by first|exact iX aU ws ((k:Nat):Int) hw (hb:=oM)|exact aa|exact pbS ab rfl rfl nds|exact af)|apply sqW|refine rgK fun U V=>?_|(refine aN V ?_;clear V U)|refine aoE (apO ab rfl rfl rfl dCd (Rd.w rfl tI) rfl (Rd.w rfl tI) (.sl rfl (by first|(intro x hx;rcases zA9.1 hx with rfl;rfl)|exact one_by8 _|exact dV _)) (lkG rfl) (lkG rfl) rfl rfl (by simp only[lLm,lLa,zAd,zAm];omega) (by simp only[lLm,lLa,zAd,zAm];omega) ?_)|refine cX ?_ ?_<;>intro hc<;>try simp only[dE] at hc|refine blK ?_|refine exW ?_|refine skW ?_|refine rtW ?_)
   all_goals (first|exact dd|skip)
   refine⟨k+1,hlt,oM,⟨rfl,?_,rfl,tI⟩,?_⟩
   · rw[←hst];rfl
   · rw[←hst];rfl
 · obtain rfl:k=ws.length:=oM;rw[zBl]
   repeat' (first|refine qT ?_|apply sqW|refine rgK fun U V=>?_|(refine aN V ?_;clear V U)|refine cX ?_ ?_<;>intro hc<;>try simp only[dE] at hc|refine blK ?_|refine exW ?_|refine skW ?_|refine rtW ?_)
   all_goals (first|exact dd|skip)
   exact⟨.inr rfl,Ent.of rfl⟩
theorem wm (ws:List aV) (hl:ws.length≤1000000000000) (hz:∀w∈ws,kU w) (ds:List Dec) (hd:ds.length≤9223372036854775807):PCall Tryz.prog 10 [.sl 12 (ws.map aU) .no,.sl 6 (ds.map bx) .no] (.b (oQ (bp ws) 0&&qo ws ds)):=by
 have h1:=wk ws hl;have h2:=PCall.H2 (sz:=10) [.sl 4 ((bp ws).map bg) .no] [] (Cl (bp ws) (by simp;omega) (fun s hs=>by
  obtain⟨w,hw,rfl⟩:=zAq.1 hs;exact(hz w hw).score) [] sMp)
 have h3:=Cn ws oM hz ds hd;refine PCall.body Tryz.func10 rfl rfl Tryz.ntmps10 rfl rfl ?_
 repeat' (first|refine qP ?_ (h:=fun hg=>by first|exact aa|exact pc h1|exact pc h2|exact pc h3|exact af|fail)|apply sqW|refine rgK fun U V=>?_|(refine aN V ?_;clear V U)|refine rtW ?_)
 exact⟨.inr rfl,Ent.b rfl⟩
end Go.Proofs.YthiaimakjmhegaaGreatDoor.Top
namespace Go.Proofs.YthiaimakjmhegaaGreatDoor.De
open Go.Ab Go.Pl Pl
attribute [local irreducible] AWP AOps EStep AQ PStep PRun PCall TCall VCall
def stC (ws:List aV) (r:Room):List AV:=[.int r.version,.int r.form.bars,.sl 3 (r.form.ar.map ba) .no,.sl 3 (r.form.ends.map ck) .no,.int r.form.jump.at_,.int r.form.jump.to,.int r.form.jump.ch,.sl 3 (r.form.cuts.map aM) .no,.sl 1 (r.aZ.map eI) .no,.sl 12 (ws.map aU) .no]
def stN (ws:List aV) (w:aV):List AV:=[.int w.score.version,.int w.form.bars,.sl 3 (w.form.ar.map ba) .no,.sl 3 (w.form.ends.map ck) .no,.int w.form.jump.at_,.int w.form.jump.to,.int w.form.jump.ch,.sl 3 (w.form.cuts.map aM) .no,.nils,.sl 12 (ws.map aU) .no]
theorem eP (ws:List aV) (r:Room):OkA (.var (stC ws r)):=fun m=>by simp[aD,stC,aO,ba,ck,aM,eI,aU,cS,bz,bQ,eO]
theorem LS (ws:List aV) (w:aV):OkA (.var (stN ws w)):=fun m=>by simp[aD,stN,aO,ba,ck,aM,eI,aU,cS,bz,bQ,eO]
theorem yN (ws:List aV) (w:aV):∀(i:Nat) u v,(stN ws w)[i]? = some u→(stC ws (jd w))[i]? = some v→∀M B x,ag M B u x→ag M B v x:=by
 intro i u v hu hv M B x hx
 match i,hu,hv with
 |0,hu,hv=>cases hu;cases hv;exact hx
 |1,hu,hv=>cases hu;cases hv;exact hx
 |2,hu,hv=>cases hu;cases hv;exact hx
 |3,hu,hv=>cases hu;cases hv;exact hx
 |4,hu,hv=>cases hu;cases hv;exact hx
 |5,hu,hv=>cases hu;cases hv;exact hx
 |6,hu,hv=>cases hu;cases hv;exact hx
 |7,hu,hv=>cases hu;cases hv;exact hx
 |8,hu,hv=>cases hu;cases hv;cases hx;exact .slz 1 .no trivial
 |9,hu,hv=>cases hu;cases hv;exact hx
 |k+10,hu,hv=>cases hu
theorem EX {o0 o1 o2:bc} (h0:OkA o0) (h1:OkA o1) (h2:OkA o2) (ws:List aV) (c0 c1 c2 c3 c4 c5 c6 c7 c8:AV) (w:aV) (hw:FIn w.form) :
 TCall Tryz.prog 161 [.ptr 3 0,.agg (aU w)] [o0,o1,o2,.var [c0,c1,c2,c3,c4,c5,c6,c7,c8,.sl 12 (ws.map aU) .no]] (fun rv s=>rv=.tup []∧s=[o0,o1,o2,.var (stN ws w)]):=by
 have w1:=qg w.form.ar hw.ar;have w2:=l3 w.form.ends hw.ends;have w3:=qm w.form.cuts hw.cuts;have hok:([o0,o1,o2,.var (stN ws w)]:ae).all (aD 4)=true:=by
  simp only[zB4,zBg,h0 4,h1 4,h2 4,LS ws w 4];rfl
 generalize hcs:[c0,c1,c2,c3,c4,c5,c6,c7,c8,.sl 12 (ws.map aU) .no]=cs;refine TCall.body Tryz.func161 rfl rfl Tryz.ntmps161 rfl rfl ?_
 repeat' (first|refine qS ?_|apply sqW|refine rgK fun U V=>?_|(refine aN V ?_;clear V U)|refine aB ?_|refine aS ?_|refine aA ?_)
 refine AWP.dZ (fun j=>match j with|0=>[o0,o1,o2,.var cs,.var (aU w),.var (aP w.form)]|1=>[o0,o1,o2,.var cs,.var (aU w),.var (aP w.form)]|2=>[o0,o1,o2,.var cs,.var (aU w),.var (aP w.form)]|_=>[o0,o1,o2,.var cs,.var (aU w),.var (aP w.form)]) rfl (by kernel_rfl) dKn rfl dKn (fun U V=>?_)
 repeat' (first
  |refine yt (h:=by refine⟨?_,?_,?_,?_⟩<;>intro hh hg<;>first|exact absurd hh dKn|exact aa|exact pc w1|exact pc w2|exact pc w3|exact af|fail) (hk:=?_)|fail)
 refine YQ.e (v:=.any) (d:=none) rfl rfl rfl ?_ ?_
 · intro aw he;exact stW ab rfl rfl ((ai (he 16 dKn)).trans rfl) (by rw[aj (he 16 dKn)];first|exact tI|exact rfl) rfl ((ai (he 9 dKn)).trans rfl) (by rw[aj (he 9 dKn)];first|exact tI|exact rfl) rfl rfl rfl rfl rfl rfl rfl ⟨rfl,rfl⟩
 repeat' (first
  |refine yt (h:=by refine⟨?_,?_,?_,?_⟩<;>intro hh hg<;>first|exact absurd hh dKn|exact aa|exact pc w1|exact pc w2|exact pc w3|exact af|fail) (hk:=?_)|fail)
 refine YQ.e (v:=.any) (d:=none) rfl rfl rfl ?_ ?_
 · intro aw he;exact stW ab rfl rfl ((ai (he 17 dKn)).trans rfl) (by rw[aj (he 17 dKn)];first|exact tI|exact rfl) rfl ((ai (he 12 dKn)).trans rfl) (by rw[aj (he 12 dKn)];first|exact tI|exact rfl) rfl rfl rfl rfl rfl rfl rfl ⟨rfl,rfl⟩
 repeat' (first
  |refine yt (h:=by refine⟨?_,?_,?_,?_⟩<;>intro hh hg<;>first|exact absurd hh dKn|exact aa|exact pc w1|exact pc w2|exact pc w3|exact af|fail) (hk:=?_)|fail)
 refine YQ.e (v:=.any) (d:=none) rfl rfl rfl ?_ ?_
 · intro aw he;exact stW ab rfl rfl ((ai (he 18 dKn)).trans rfl) (by rw[aj (he 18 dKn)];first|exact tI|exact rfl) rfl ((ai (he 15 dKn)).trans rfl) (by rw[aj (he 15 dKn)];first|exact tI|exact rfl) rfl rfl rfl rfl rfl rfl rfl ⟨rfl,rfl⟩
 repeat' (first
  |refine yt (h:=by refine⟨?_,?_,?_,?_⟩<;>intro hh hg<;>first|exact absurd hh dKn|exact aa|exact pc w1|exact pc w2|exact pc w3|exact af|fail) (hk:=?_)|fail)
 refine YQ.nil (V _ _ ?_);clear V U;subst hcs
 repeat' (first|refine qP ?_ (h:=fun hg=>by first|exact aa|exact pbD ab rfl rfl nds|exact af)|refine rgK fun U V=>?_|(refine aN V ?_;clear V U)|refine aS ?_)
 exact⟨.inl rfl,_,[o0,o1,o2,.var (stN ws w)],⟨rfl,rfl⟩,rfl,by simp,hok,rfl,rfl⟩
theorem wo (w:aV) (d:Dec):PCall Tryz.prog 230 [.agg (aU w),.iptr (bx d)] (.b (fJ d.a w)):=by
 refine PCall.body Tryz.func230 rfl rfl Tryz.ntmps230 rfl rfl ?_
 repeat' (first|refine qS ?_|apply sqW|refine rgK fun U V=>?_|(refine aN V ?_;clear V U)|refine aB ?_|refine rtW ?_)
 exact⟨.inr rfl,Ent.b rfl⟩
theorem mb {f:FuncId} {avs:List AV} {o0 o1 o2 o3 o3':bc} {v:AV} (h:TCall Tryz.prog f avs [o0,o1,o2,o3] (fun rv s=>rv=v∧s=[o0,o1,o2,o3'])) (h0:OkA o0) (h1:OkA o1) (h2:OkA o2) (h3:OkA o3) (ha:avs.all (aO 4 4)=true) (τ:ae) :
 VCall Tryz.prog (.fn (.func f) [] []) avs ([o0,o1,o2,o3]++τ) (fun rv s=>rv=v∧s=[o0,o1,o2,o3']++τ):=by
 have hk:([o0,o1,o2,o3]:ae).all (aD 4)=true:=by simp only[zB4,zBg,h0 4,h1 4,h2 4,h3 4];rfl
 have:=VCall.frame (TCall.val (first:=[]) (aQ:=[]) (avs:=avs) (by rw[zE1,zCm];exact h)) τ hk rfl ha (by rintro rv s' ⟨_,rfl⟩;rfl);refine VCall.mono this ?_;rintro r t ⟨t',rfl,h,rfl⟩;exact⟨h,rfl⟩
theorem EY {o0 o1 o2:bc} (h0:OkA o0) (h1:OkA o1) (h2:OkA o2) (ws:List aV) (hl:ws.length≤1000000000) (hws:∀w∈ws,WIn w) (r:Room) (d:Dec) :
 TCall Tryz.prog 164 [.ptr 3 0,.agg (bx d)] [o0,o1,o2,.var (stC ws r)] (fun rv s=>rv=.int (eE ws r d).2∧s=[o0,o1,o2,.var (stC ws (eE ws r d).1)]):=by
 have hix:=tJ ws (.fn (.func 230) [] [.iptr (bx d)]) (fJ d.a) (fun x _=>⟨_,[],_,rfl,wo x d⟩) hl;have hok:∀r,([o0,o1,o2,.var (stC ws r)]:ae).all (aD 4)=true:=fun r=>by
  simp only[zB4,zBg,h0 4,h1 4,h2 4,eP ws r 4];rfl
 by_cases hA:(decide (d.b≠0)||decide (d.c≠0))=true
 · have e:eE ws r d=(r,1):=if_pos hA;rw[e];refine TCall.body Tryz.func164 rfl rfl Tryz.ntmps164 rfl rfl ?_
   repeat' (first|refine qS ?_|apply sqW|refine rgK fun U V=>?_|(refine aN V ?_;clear V U)|refine aB ?_)
   refine cdW rfl tI (fun hc=>?_) (fun hc=>absurd hc (by simp at hA ⊢;omega))
   repeat' (first|refine qS ?_|apply sqW|refine rgK fun U V=>?_|(refine aN V ?_;clear V U)|refine rtW ?_)
   exact⟨.inr rfl,_,[o0,o1,o2,.var (stC ws r)],⟨rfl,rfl⟩,rfl,by simp,hok r,rfl,rfl⟩
 have hA2:d.b=0∧d.c=0:=by simp at hA;omega
 by_cases hB:az (fJ d.a) ws<0
 · have e:eE ws r d=(r,4):=by unfold eE;rw[if_neg hA,if_pos hB]
   rw[e];refine TCall.body Tryz.func164 rfl rfl Tryz.ntmps164 rfl rfl ?_
   repeat' (first|refine qS ?_|apply sqW|refine rgK fun U V=>?_|(refine aN V ?_;clear V U)|refine aB ?_)
   refine cdW rfl tI (fun hc=>absurd hc (by simp[hA2])) (fun hc=>?_)
   repeat' (first|refine qP ?_ (h:=fun hg=>by first|exact aa|exact pbW (hix) rfl rfl nd rfl rfl nds|exact af)|apply sqW|refine rgK fun U V=>?_|(refine aN V ?_;clear V U)|refine skW ?_)
   refine cdW rfl tI (fun hc=>?_) (fun hc=>absurd hc (by first|(simp;done)|(simp;omega)))
   repeat' (first|refine qS ?_|apply sqW|refine rgK fun U V=>?_|(refine aN V ?_;clear V U)|refine rtW ?_)
   exact⟨.inr rfl,_,[o0,o1,o2,.var (stC ws r)],⟨rfl,rfl⟩,rfl,by simp,hok r,rfl,rfl⟩
 · obtain⟨k,hk,hkl,_,_⟩:=bY (p:=fJ d.a) (l:=ws) oM;obtain⟨w,hwk⟩:∃w,ws.getD k default=w:=⟨_,rfl⟩
   have e:eE ws r d=(jd w,0):=by unfold eE;rw[if_neg hA,if_neg hB,hk,zAe,hwk]
   rw[e];rw[hk] at hix;have hin:=hws w (hwk▸bD hkl);have ht:=mb (EX h0 h1 h2 ws _ _ _ _ _ _ _ _ _ w hin.form) h0 h1 h2 (eP ws r) rfl [.var (bx d)];refine TCall.body Tryz.func164 rfl rfl Tryz.ntmps164 rfl rfl ?_
   repeat' (first|refine qS ?_|apply sqW|refine rgK fun U V=>?_|(refine aN V ?_;clear V U)|refine aB ?_)
   refine cdW rfl tI (fun hc=>absurd hc (by simp[hA2])) (fun hc=>?_)
   repeat' (first|refine qP ?_ (h:=fun hg=>by first|exact aa|exact pbW (hix) rfl rfl nd rfl rfl nds|exact af)|apply sqW|refine rgK fun U V=>?_|(refine aN V ?_;clear V U)|refine skW ?_)
   refine cdW rfl tI (fun hc=>absurd hc (by first|(simp;done)|(simp;omega))) (fun hc=>?_)
   repeat' (first|refine qP ?_ (h:=fun hg=>by first|exact iX aU ws ((k:Nat):Int) hwk (hb:=oM)|exact aa|exact af)|apply sqW|refine rgK fun U V=>?_|refine aoE (scT (ht) rfl rfl rfl rfl rfl nd rfl rfl nds ?_)|refine skW ?_)
   rintro _ _ ⟨rfl,rfl⟩
   repeat' (first|(refine aN V ?_;clear V U))
   refine AWP.ux 3 (cs':=stC ws (jd w)) rfl rfl (yN ws w) ?_
   repeat' (first|refine qS ?_|apply sqW|refine rgK fun U V=>?_|(refine aN V ?_;clear V U)|refine rtW ?_)
   exact⟨.inr rfl,_,[o0,o1,o2,.var (stC ws (jd w))],⟨rfl,rfl⟩,rfl,by simp,hok _,rfl,rfl⟩
theorem sE {o0 o1 o2:bc} (h0:OkA o0) (h1:OkA o1) (h2:OkA o2) (ws:List aV) (r:Room) (x:aG×Int) :
 TCall Tryz.prog 166 [.ptr 3 0,.agg (aP x.1),.int x.2] [o0,o1,o2,.var (stC ws r)] (fun rv s=>rv=.int (ct r x).2∧s=[o0,o1,o2,.var (stC ws (ct r x).1)]):=by
 have hok:∀r,([o0,o1,o2,.var (stC ws r)]:ae).all (aD 4)=true:=fun r=>by
  simp only[zB4,zBg,h0 4,h1 4,h2 4,eP ws r 4];rfl
 obtain⟨f,e⟩:=x;by_cases he:e=0
 · subst he;have e1:ct r (f,0)=({ r with form:=f },0):=rfl;rw[e1];dsimp only;refine TCall.body Tryz.func166 rfl rfl Tryz.ntmps166 rfl rfl ?_
   repeat' (first|refine qS ?_|apply sqW|refine rgK fun U V=>?_|(refine aN V ?_;clear V U)|refine aB ?_)
   refine cdW rfl tI (fun hc=>?_) (fun hc=>absurd hc sMp)
   repeat' (first|refine qT ?_|apply sqW|refine rgK fun U V=>?_|(refine aN V ?_;clear V U)|refine aS ?_|refine rtW ?_)
   exact⟨.inr rfl,_,[o0,o1,o2,.var (stC ws { r with form:=f })],⟨rfl,rfl⟩,rfl,by simp,hok _,rfl,rfl⟩
 · have e1:ct r (f,e)=(r,e):=by unfold ct;rw[if_neg he]
   rw[e1];refine TCall.body Tryz.func166 rfl rfl Tryz.ntmps166 rfl rfl ?_
   repeat' (first|refine qS ?_|apply sqW|refine rgK fun U V=>?_|(refine aN V ?_;clear V U)|refine aB ?_)
   refine cdW rfl tI (fun hc=>absurd hc (by simpa using he)) (fun hc=>?_)
   repeat' (first|refine qS ?_|apply sqW|refine rgK fun U V=>?_|(refine aN V ?_;clear V U)|refine skW ?_|refine rtW ?_)
   exact⟨.inr rfl,_,[o0,o1,o2,.var (stC ws r)],⟨rfl,rfl⟩,rfl,by simp,hok _,rfl,rfl⟩
abbrev ni (d:Dec):bI:=⟨d.a,d.b,d.c⟩
abbrev tl8 (d:Dec) (o7:bc):ae:=[.var [.ptr 3 0],.var (bx d),.var (aM (ni d)),o7]
abbrev st8 (o0 o1 o2:bc) (ws:List aV) (r:Room) (d:Dec) (o7:bc):ae:=[o0,o1,o2,.var (stC ws r)]++tl8 d o7
theorem ok8 {o0 o1 o2 o7:bc} (h0:OkA o0) (h1:OkA o1) (h2:OkA o2) (h7:aD 8 o7=true) (ws:List aV) (r:Room) (d:Dec):(st8 o0 o1 o2 ws r d o7).all (aD 8)=true:=by
 show([o0,o1,o2,.var (stC ws r),.var [.ptr 3 0],.var (bx d),.var (aM (ni d)),o7]:ae).all (aD 8)=true;simp only[zB4,zBg,h0 8,h1 8,h2 8,h7,eP ws r 8];rfl
theorem LU {o0 o1 o2 o7:bc} (h0:OkA o0) (h1:OkA o1) (h2:OkA o2) (h7:aD 8 o7=true) (ws:List aV) (hl:ws.length≤1000000000) (hws:∀w∈ws,WIn w) (r:Room) (d:Dec) :
 TCall Tryz.prog 163 [.ptr 4 0,.ptr 5 0] (st8 o0 o1 o2 ws r d o7) (fun rv s=>rv=.int (eE ws r d).2∧s=st8 o0 o1 o2 ws (eE ws r d).1 d o7):=by
 have w:=mb (EY h0 h1 h2 ws hl hws r d) h0 h1 h2 (eP ws r) rfl (tl8 d o7);refine TCall.body Tryz.func163 rfl rfl Tryz.ntmps163 rfl rfl ?_
 repeat' (first|refine qS ?_|apply sqW|refine rgK fun U V=>?_|(refine aN V ?_;clear V U)|refine aoE (scT (w) rfl rfl rfl rfl rfl nd rfl rfl nds ?_))
 rintro _ _ ⟨rfl,rfl⟩
 repeat' (first|refine qS ?_|(refine aN V ?_;clear V U)|refine rtW ?_)
 exact⟨.inr rfl,_,st8 o0 o1 o2 ws (eE ws r d).1 d o7,⟨rfl,rfl⟩,rfl,by simp,ok8 h0 h1 h2 h7 ws _ d,rfl,rfl⟩
theorem LV {o0 o1 o2 o7:bc} (h0:OkA o0) (h1:OkA o1) (h2:OkA o2) (h7:aD 8 o7=true) (ws:List aV) (r:Room) (hf:FIn r.form) (d:Dec) :
 TCall Tryz.prog 165 [.ptr 4 0,.ptr 6 0] (st8 o0 o1 o2 ws r d o7) (fun rv s=>rv=.int (ct r (iM r.form (ni d))).2∧s=st8 o0 o1 o2 ws (ct r (iM r.form (ni d))).1 d o7):=by
 have w:=GF r.form hf (ni d);generalize iM r.form (ni d)=X at *;have w2:=mb (sE h0 h1 h2 ws r X) h0 h1 h2 (eP ws r) rfl (tl8 d o7);obtain⟨F,e⟩:=X;refine TCall.body Tryz.func165 rfl rfl Tryz.ntmps165 rfl rfl ?_
 repeat' (first|refine qS ?_|apply sqW|refine rgK fun U V=>?_|(refine aN V ?_;clear V U))
 refine AWP.kR (yo [13]) (fun j=>match j with|0=>st8 o0 o1 o2 ws r d o7|_=>st8 o0 o1 o2 ws (ct r (F,e)).1 d o7) rfl (by kernel_rfl) dKn rfl dKn (fun U V=>?_)
 repeat' (first
  |refine yt (h:=by refine⟨?_,?_,?_,?_⟩<;>intro hh hg<;>first|exact absurd hh dKn|exact aa|exact pc w|exact af|fail) (hk:=?_)|fail)
 refine YQ.e (v:=.int (ct r (F,e)).2) (d:=some 13) rfl rfl rfl ?_ ?_
 · intro aw he;refine scT w2 rfl rfl rfl rfl rfl tI rfl (by simp only[rds,ai (he 3 dKn),ai (he 11 dKn),ai (he 12 dKn)];rfl) ⟨(by rw[aj (he 3 dKn)];first|exact tI|exact rfl),(by rw[aj (he 11 dKn)];first|exact tI|exact rfl),(by rw[aj (he 12 dKn)];first|exact tI|exact rfl),tI⟩ ?_;rintro _ _ ⟨rfl,rfl⟩;exact⟨rfl,rfl⟩
 repeat' (first
  |refine yt (hk:=?_)|fail)
 refine YQ.nil (V _ _ ?_);clear V U
 repeat' (first|refine rtW ?_)
 exact⟨.inr rfl,_,st8 o0 o1 o2 ws (ct r (F,e)).1 d o7,⟨rfl,rfl⟩,rfl,by simp,ok8 h0 h1 h2 h7 ws _ d,rfl,rfl⟩
theorem LW {o0 o1 o2 o7:bc} (h0:OkA o0) (h1:OkA o1) (h2:OkA o2) (h7:aD 8 o7=true) (ws:List aV) (r:Room) (hf:FIn r.form) (d:Dec) :
 TCall Tryz.prog 168 [.ptr 4 0,.ptr 6 0] (st8 o0 o1 o2 ws r d o7) (fun rv s=>rv=.int (ct r (gX r.form (ni d))).2∧s=st8 o0 o1 o2 ws (ct r (gX r.form (ni d))).1 d o7):=by
 have w:=Ex r.form hf (ni d);generalize gX r.form (ni d)=X at *;have w2:=mb (sE h0 h1 h2 ws r X) h0 h1 h2 (eP ws r) rfl (tl8 d o7);obtain⟨F,e⟩:=X;refine TCall.body Tryz.func168 rfl rfl Tryz.ntmps168 rfl rfl ?_
 repeat' (first|refine qS ?_|apply sqW|refine rgK fun U V=>?_|(refine aN V ?_;clear V U))
 refine AWP.kR (yo [13]) (fun j=>match j with|0=>st8 o0 o1 o2 ws r d o7|_=>st8 o0 o1 o2 ws (ct r (F,e)).1 d o7) rfl (by kernel_rfl) dKn rfl dKn (fun U V=>?_)
 repeat' (first
  |refine yt (h:=by refine⟨?_,?_,?_,?_⟩<;>intro hh hg<;>first|exact absurd hh dKn|exact aa|exact pc w|exact af|fail) (hk:=?_)|fail)
 refine YQ.e (v:=.int (ct r (F,e)).2) (d:=some 13) rfl rfl rfl ?_ ?_
 · intro aw he;refine scT w2 rfl rfl rfl rfl rfl tI rfl (by simp only[rds,ai (he 3 dKn),ai (he 11 dKn),ai (he 12 dKn)];rfl) ⟨(by rw[aj (he 3 dKn)];first|exact tI|exact rfl),(by rw[aj (he 11 dKn)];first|exact tI|exact rfl),(by rw[aj (he 12 dKn)];first|exact tI|exact rfl),tI⟩ ?_;rintro _ _ ⟨rfl,rfl⟩;exact⟨rfl,rfl⟩
 repeat' (first
  |refine yt (hk:=?_)|fail)
 refine YQ.nil (V _ _ ?_);clear V U
 repeat' (first|refine rtW ?_)
 exact⟨.inr rfl,_,st8 o0 o1 o2 ws (ct r (F,e)).1 d o7,⟨rfl,rfl⟩,rfl,by simp,ok8 h0 h1 h2 h7 ws _ d,rfl,rfl⟩
def tN (r:Room) (d:Dec):Room×Int:=if d.c≠0 then (r,1) else ct r (dS r.form d.a d.b)
theorem LX {o0 o1 o2 o7:bc} (h0:OkA o0) (h1:OkA o1) (h2:OkA o2) (h7:aD 8 o7=true) (ws:List aV) (r:Room) (hf:FIn r.form) (d:Dec) :
 TCall Tryz.prog 170 [.ptr 5 0,.ptr 4 0] (st8 o0 o1 o2 ws r d o7) (fun rv s=>rv=.int (tN r d).2∧s=st8 o0 o1 o2 ws (tN r d).1 d o7):=by
 by_cases hc0:d.c≠0
 · have e1:tN r d=(r,1):=if_pos hc0;rw[e1];refine TCall.body Tryz.func170 rfl rfl Tryz.ntmps170 rfl rfl ?_
   repeat' (first|refine qS ?_|apply sqW|refine rgK fun U V=>?_|(refine aN V ?_;clear V U))
   refine cdW rfl tI (fun hc=>?_) (fun hc=>absurd hc (by simpa using hc0))
   repeat' (first|refine qS ?_|apply sqW|refine rgK fun U V=>?_|(refine aN V ?_;clear V U)|refine rtW ?_)
   exact⟨.inr rfl,_,st8 o0 o1 o2 ws r d o7,⟨rfl,rfl⟩,rfl,by simp,ok8 h0 h1 h2 h7 ws _ d,rfl,rfl⟩
 · have e1:tN r d=ct r (dS r.form d.a d.b):=if_neg hc0;rw[e1];have w:=Cg r.form hf d.a d.b;generalize dS r.form d.a d.b=X at *;have w2:=mb (sE h0 h1 h2 ws r X) h0 h1 h2 (eP ws r) rfl (tl8 d o7);obtain⟨F,e⟩:=X;refine TCall.body Tryz.func170 rfl rfl Tryz.ntmps170 rfl rfl ?_
   repeat' (first|refine qS ?_|apply sqW|refine rgK fun U V=>?_|(refine aN V ?_;clear V U))
   refine cdW rfl tI (fun hc=>absurd hc (by simpa using hc0)) (fun hc=>?_)
   repeat' (first|apply sqW|refine skW ?_)
   refine AWP.kR (yo [19]) (fun j=>match j with|0=>st8 o0 o1 o2 ws r d o7|_=>st8 o0 o1 o2 ws (ct r (F,e)).1 d o7) rfl (by kernel_rfl) dKn rfl dKn (fun U V=>?_)
   repeat' (first
    |refine yt (h:=by refine⟨?_,?_,?_,?_⟩<;>intro hh hg<;>first|exact absurd hh dKn|exact aa|exact pc w|exact af|fail) (hk:=?_)|fail)
   refine YQ.e (v:=.int (ct r (F,e)).2) (d:=some 19) rfl rfl rfl ?_ ?_
   · intro aw he;refine scT w2 rfl rfl rfl rfl rfl tI rfl (by simp only[rds,ai (he 6 dKn),ai (he 17 dKn),ai (he 18 dKn)];rfl) ⟨(by rw[aj (he 6 dKn)];first|exact tI|exact rfl),(by rw[aj (he 17 dKn)];first|exact tI|exact rfl),(by rw[aj (he 18 dKn)];first|exact tI|exact rfl),tI⟩ ?_;rintro _ _ ⟨rfl,rfl⟩;exact⟨rfl,rfl⟩
   repeat' (first
    |refine yt (hk:=?_)|fail)
   refine YQ.nil (V _ _ ?_);clear V U
   repeat' (first|refine rtW ?_)
   exact⟨.inr rfl,_,st8 o0 o1 o2 ws (ct r (F,e)).1 d o7,⟨rfl,rfl⟩,rfl,by simp,ok8 h0 h1 h2 h7 ws _ d,rfl,rfl⟩
end Go.Proofs.YthiaimakjmhegaaGreatDoor.De
