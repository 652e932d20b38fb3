/- Parts of the proof. No statement is proved here. -/
import Derived.Test.YthiaimakjmhegaaGreatDoorP17
import Derived.Test.YthiaimakjmhegaaGreatDoorP18
set_option linter.unusedVariables false
set_option linter.unusedSimpArgs false
set_option maxHeartbeats 16000000
set_option maxRecDepth 20000
namespace Go.Ab
end Go.Ab
namespace Go.Proofs.YthiaimakjmhegaaGreatDoor.Al
open Go.Ab Go.Sort
attribute [local irreducible] AWP AOps EStep AQ PStep PRun PCall TCall VCall
theorem fq {α:Type} [Inhabited α] {l:List α} {k:Nat} (h:k<l.length):l.drop k=l.getD k default::l.drop (k+1):=by
 rw[zBj h,bb h]
theorem uv {ps:PL} {i k:Int} (h:HQ ps i=false):ins ps i k=ps++[(i,k)]:=by
 induction ps with
 |nil=>rfl
 | cons p r ih =>
   obtain⟨x,y⟩:=p;unfold HQ at h ih;rw[List.any_cons,zAg] at h;have hne:x≠i:=by simpa using h.1
   simp only[ins];rw[if_neg hne,ih h.2];rfl
end Go.Proofs.YthiaimakjmhegaaGreatDoor.Al
namespace Go.Ab
end Go.Ab
namespace Go.Proofs.YthiaimakjmhegaaGreatDoor.Al
open Go.Ab Go.Sort
attribute [local irreducible] AWP AOps EStep AQ PStep PRun PCall TCall VCall
def encI (n:Int):List AV:=[.int n]
structure Algn where
 pairs:PL
 cost:Int
 table:List (List Int)
 deriving Inhabited
structure Algn.qG (x:Algn):Prop where
 pairs:x.pairs.length≤9223372036854775807
 table:x.table.length≤9223372036854775807
 rows:∀r∈x.table,r.length≤9223372036854775807
def eD (ps:PL) (l:List bk):PL:=l.filterMap fun n=>(lk ps n.id).map fun y=>(n.id,y)
end Go.Proofs.YthiaimakjmhegaaGreatDoor.Al
namespace Go.Ab
open Go.ChangeShapes Go.WideShapes
section
variable {H:Type} {enc:TypeId×Value→H} {P:Program} {w:World} {base:Nat} {held:Bool} {spare:Nat→Bool}
theorem cF {α:Type} [Inhabited α] (f:α→List AV) (kX:α→Prop) {t e:TypeId} {sz fuel:Nat} {v:Value} {x:DataW H×List MemPlace} (ht:P.underlying t=some (.slice e)) (hsz:P.cellsOf e=sz) (cK:0<sz)
 (elem:∀(n:Nat) (cs:List Value) (y:DataW H×List MemPlace),DataW.trod enc P w base spare held n e cs=some y→∃a:α,(f a).length=sz∧(∀(j:Nat) c,(f a)[j]? = some c→ag (bH w) [] c (cs.getD j undef))∧kX a)
 (h:DataW.trod enc P w base spare held fuel t [v]=some x):∃al:List α,ag (bH w) [] (.sl sz (al.map f) .no) v∧al.length≤maxLen∧∀a∈al,kX a:=by
 have h0:=h;rcases Deep.open_slice ht h with ⟨hc,_⟩|⟨a,len,cap,m,n,D,Pl,hc,_,hl,hm,hmm,_,hx⟩
 · simp at hc;subst hc;exact⟨[],.slz sz .no trivial,by simp,fun a ha=>by simp at ha⟩
 · simp only[List.cons.injEq,and_true] at hc;subst hc;cases len with
   |zero=>exact⟨[],.slzz sz (some a) cap,by simp,fun a ha=>by simp at ha⟩
   | succ len =>
     refine Dl f kX ht hsz cK elem (fun a' Gr dK e=>?_) h0;cases e;have hle:0<m:=by rw[hmm];split<;>omega
     obtain⟨cs',h1,_⟩:=hx 0 hle;rw[hsz] at h1;obtain⟨_,_,h5⟩:=World.cells?_some h1;have h6:=h5 0 cK;obtain⟨b,off,sp⟩:=a;have e0:(⟨b,off,sp⟩:Addr).add (0 * sz)=⟨b,off,sp⟩:=by rw[zD2];rfl
     have e1:(⟨b,off,sp⟩:Addr).add 0=⟨b,off,sp⟩:=rfl;rw[e0,e1] at h6;cases h7:cs'[0]? with
     | none =>
       have h8:=List.getElem?_eq_none_iff.1 h7;omega
     | some v =>
       rw[h7] at h6;exact World.cell?_spot h6
end
end Go.Ab
namespace Go.Proofs.YthiaimakjmhegaaGreatDoor.Al
open Go.Ab Go.ChangeShapes Go.WideShapes
section
variable {H:Type} {enc:TypeId×Value→H} {W:World} {base b0 fuel:Nat} {held:Bool} {spare:Nat→Bool}
end
end Go.Proofs.YthiaimakjmhegaaGreatDoor.Al
namespace Go.Proofs.YthiaimakjmhegaaGreatDoor.Cy
open Go.Ab Go.ChangeShapes Go.WideShapes Al Mk
section
variable {H:Type} {enc:TypeId×Value→H} {W:World} {base b0 fuel:Nat} {held:Bool} {spare:Nat→Bool}
theorem Gs {n:Nat} {cs:List Value} {y:DataW H×List MemPlace} (h:DataW.trod enc Tryz.prog W base spare held n 84 cs=some y):∃s:Score,(bg s).length=4∧(∀(j:Nat) c,(bg s)[j]? = some c→ag (bH W) [] c (cs.getD j undef))∧s.qG:=by
 obtain⟨hlen,n,hff⟩:=bT I8 h;rw[I9] at hlen
 match cs,hlen with
 | [u0, u1, u2, u3], _ =>
   obtain⟨y0,h0⟩:=hff 0 3 0 1 rfl;obtain⟨y1,h1⟩:=hff 1 80 1 1 rfl;obtain⟨y2,h2⟩:=hff 2 81 2 1 rfl;obtain⟨y3,h3⟩:=hff 3 82 3 1 rfl;rw[cn3] at h0;rw[Kn] at h1;rw[I5] at h2;rw[I7] at h3;obtain⟨n0,e0,_⟩:=aY lk3 h0;have g0:u0=vI n0:=by simpa using e0
   subst g0;obtain⟨a,r1,b1,_⟩:=cF (w:=W) (enc:=enc) (base:=base) (held:=held) (spare:=spare) cS (fun _=>True) (v:=u1) Km.cv HV dCd (fun n cs y h=>by
    obtain⟨e,rfl⟩:=LF h;exact⟨e,rfl,Kh e,trivial⟩) h1
   obtain⟨b,r2,b2,_⟩:=cF (w:=W) (enc:=enc) (base:=base) (held:=held) (spare:=spare) bz (fun _=>True) (v:=u2) I4.cv Eg dCd (fun n cs y h=>by
    obtain⟨e,rfl⟩:=Kj h;exact⟨e,rfl,I2 e,trivial⟩) h2
   obtain⟨c,r3,b3,_⟩:=cF (w:=W) (enc:=enc) (base:=base) (held:=held) (spare:=spare) bQ (fun _=>True) (v:=u3) I6.cv Eh dCd (fun n cs y h=>by
    obtain⟨e,rfl⟩:=Kl h;exact⟨e,rfl,I3 e,trivial⟩) h3
   refine⟨⟨n0,a,b,c⟩,rfl,fun i c hi=>?_,⟨b1,b2,b3⟩⟩
   match i,hi with
   |0,hi=>simp[bg] at hi;subst hi;exact .prim _
   |1,hi=>simp[bg] at hi;subst hi;exact r1
   |2,hi=>simp[bg] at hi;subst hi;exact r2
   |3,hi=>simp[bg] at hi;subst hi;exact r3
   |i+4,hi=>simp[bg] at hi
end
end Go.Proofs.YthiaimakjmhegaaGreatDoor.Cy
namespace Go.Ab
theorem EStep.gn {P:Program} {n:Nat} {ops:Array Oper} {o:Oper} {k:Env→ae→Prop} {env:Env} {σ:ae} {j d:Nat} {want t:Bool} (h1:o.guard=some (j,want)) (h2:(ops[j]?).bind (·.dst)=some d) (h3:env d=.prim (.bool t)) (h4:(t==want)=false) (hdn:eu n o=true) (hk:k (env.br o.dst .any) σ):EStep P n ops o k env σ:=by
 intro G a w hr;have hz:=hr.bh d;rw[h3] at hz;have hv:=ag.aJ hz;have h5:a.tmps[d]? = some (.bool t):=by
  cases h:a.tmps[d]? with
  |none=>simp[h,undef] at hv
  |some y=>simp[h] at hv;rw[hv]
 have hw:Region.wanted o (yielded ops a.tmps)=false:=by
  simp only[Region.wanted,h1,yielded,h2,zDx,h5];cases t<;>cases want<;>first|rfl|cases h4
 rw[if_neg (by rw[hw];decide)];refine⟨_,σ,hk,?_⟩;cases hd:o.dst with
 |none=>exact hr
 |some d'=>exact hr.put (by simpa[eu,hd] using hdn) (.any _)
end Go.Ab
namespace Go.Proofs.YthiaimakjmhegaaGreatDoor.Top
open Go.Ab Go.Jo Mk
attribute [local irreducible] AWP AOps EStep AQ PStep PRun PCall TCall VCall
def gj (H:List (Int×Int)) (x:eo):Bool:=(lk H x.dq).isSome==(x.kind==2)
def nH (H:List (Int×Int)) (x:eo):List (Int×Int):=if gj H x=false then H else if x.kind=1 then ins H x.dq x.bR else if x.kind=2 then uA H x.dq else H
def nC (c:Nat) (H:List (Int×Int)) (x:eo):Nat:=if gj H x=false then c else if x.kind=1 then uy c H x.dq else c
def nB (c:Nat) (bs:List Nat) (H:List (Int×Int)) (x:eo):List Nat:=if gj H x=false then bs else if x.kind=1 then uz c bs H x.dq else if x.kind=2 then uB bs H x.dq else bs
def nL (H L:List (Int×Int)) (x:eo):List (Int×Int):=if gj H x=false then L else if x.kind=3 then ins L x.dq x.au else L
abbrev stL (c:Nat) (bs:List Nat) (H L:List (Int×Int)):ae:=[.mapp c bs (Go.Ab.aT ekI AV.int H),.map (Go.Ab.aT ekI AV.int L)]
theorem okL (m c:Nat) (bs:List Nat) (H L:List (Int×Int)):(stL c bs H L).all (aD m)=true:=by simp[aD,aT,aO]
theorem Gt (x:eo) {r:Option Nat} (h:lk se x.kind=r):∃fv,jo (r.getD 0)=.agg [fv,.b (x.kind==2)]:=by
 subst h;by_cases h1:x.kind=1
 · rw[h1];exact⟨_,rfl⟩
 by_cases h2:x.kind=2
 · rw[h2];exact⟨_,rfl⟩
 by_cases h3:x.kind=3
 · rw[h3];exact⟨_,rfl⟩
 have e:lk se x.kind=none:=by simp only[lk];rw[if_neg (Ne.symm h1),if_neg (Ne.symm h2),if_neg (Ne.symm h3)]
 rw[e,show(x.kind==2)=false from by simp[h2]];exact⟨_,rfl⟩
theorem LJ (c:Nat) (bs:List Nat) (H L:List (Int×Int)) (x:eo) :
 TCall Tryz.prog 157 [.agg [.map 0,.map 1],.agg (bS x)] (stL c bs H L) (fun rv s=>rv=.b (gj H x)∧s=stL (nC c H x) (nB c bs H x) (nH H x) (nL H L x)):=by
 obtain⟨r,hr⟩:∃r,lk se x.kind=r:=⟨_,rfl⟩
 obtain⟨fv,hfv⟩:=Gt x hr;unfold nC nB nH nL;have ha:gj H x=((lk H x.dq).isSome==(x.kind==2)):=rfl;refine TCall.body Tryz.func157 rfl rfl Tryz.ntmps157 rfl rfl ?_
 repeat' (first|refine qP ?_ (h:=fun hg=>by first|exact PRun.IE (ok:=true) (ek:=ekI) (ev:=AV.int) (al:=H) (key:=x.dq) (zv:=0) (aL (lkG rfl)) (lkG rfl) (lkG rfl) rfl rfl (Rd.w rfl nd) rfl (Rd.w rfl nd) rfl|exact aa|fail)|apply sqW|refine rgK fun U V=>?_|(refine aN V ?_;clear V U)|refine aB ?_|refine aoE (EStep.IC (ek:=ekI) (ev:=AV.int) (al:=H) (key:=x.dq) (v:=x.bR) (aL (lkG rfl)) (lkG rfl) rfl rfl rfl (Rd.w rfl tI) rfl (Rd.w rfl tI) rfl (Rd.w rfl tI) ?_)|refine aoE (EStep.ID (ek:=ekI) (ev:=AV.int) (al:=H) (key:=x.dq) (aL (lkG rfl)) (lkG rfl) rfl rfl rfl (Rd.w rfl tI) rfl (Rd.w rfl tI) rfl ?_)|refine aoE (EStep.fu (ek:=ekI) (ev:=AV.int) (al:=L) (key:=x.dq) (v:=x.au) (aL (lkG rfl)) (lkG rfl) rfl rfl rfl (Rd.w rfl tI) rfl (Rd.w rfl tI) rfl (Rd.w rfl tI) ?_)|refine cX ?_ ?_<;>intro hc<;>try simp only[dE] at hc|refine blK ?_|refine skW ?_|refine rtW ?_|refine kD fun U V=>?_|(refine aqN (V _ ?_);clear V U)|refine aqQ rfl rfl (fun hg=>by first|exact PRun.eq9 (v:=jo (r.getD 0)) (PRun.ke (ok:=false) (ek:=ekI) (ev:=jo) (zv:=0) hr (aL (lkG rfl)) (lkG rfl) (lkG rfl) rfl rfl (Rd.w rfl nd) (Or.inl rfl) (Rd.w rfl nd) rfl) hfv|exact aa|exact pc mU|fail) (by exact rfl) ?_)
 · have hA:gj H x=false:=by rw[ha];revert hc;cases (lk H x.dq).isSome<;>cases x.kind==2<;>simp
   exact⟨.inr rfl,_,stL c bs H L,⟨congrArg AV.b hA.symm,by rw[if_pos hA,if_pos hA,if_pos hA,if_pos hA]⟩,rfl,by simp,okL _ c bs H L,rfl,rfl⟩
 · rename_i h0;have hA:gj H x=true:=by rw[ha];revert h0;cases (lk H x.dq).isSome<;>cases x.kind==2<;>simp
   have hk:x.kind=1:=eq_of_beq hc;exact⟨.inr rfl,_,stL (uy c H x.dq) (uz c bs H x.dq) (ins H x.dq x.bR) L,⟨congrArg AV.b hA.symm,by simp[hA,hk]⟩,rfl,by simp,okL _ _ _ _ _,rfl,rfl⟩
 · rename_i h0 h1;have hA:gj H x=true:=by rw[ha];revert h0;cases (lk H x.dq).isSome<;>cases x.kind==2<;>simp
   have hk:x.kind=2:=eq_of_beq hc;exact⟨.inr rfl,_,stL c (uB bs H x.dq) (uA H x.dq) L,⟨congrArg AV.b hA.symm,by simp[hA,hk]⟩,rfl,by simp,okL _ _ _ _ _,rfl,rfl⟩
 · rename_i h0 h1 h2;have hA:gj H x=true:=by rw[ha];revert h0;cases (lk H x.dq).isSome<;>cases x.kind==2<;>simp
   have hk:x.kind=3:=eq_of_beq hc;exact⟨.inr rfl,_,stL c bs H (ins L x.dq x.au),⟨congrArg AV.b hA.symm,by simp[hA,hk]⟩,rfl,by simp,okL _ _ _ _ _,rfl,rfl⟩
 · rename_i h0 h1 h2;have hA:gj H x=true:=by rw[ha];revert h0;cases (lk H x.dq).isSome<;>cases x.kind==2<;>simp
   have k1:x.kind≠1:=by simpa using h1
   have k2:x.kind≠2:=by simpa using h2
   have k3:x.kind≠3:=by simpa using hc
   exact⟨.inr rfl,_,stL c bs H L,⟨congrArg AV.b hA.symm,by simp[hA,k1,k2,k3]⟩,rfl,by simp,okL _ _ _ _ _,rfl,rfl⟩
end Go.Proofs.YthiaimakjmhegaaGreatDoor.Top
namespace Go.Ab
theorem EStep.gy {P:Program} {n:Nat} {ops:Array Oper} {o:Oper} {k:Env→ae→Prop} {env:Env} {σ:ae} {j d:Nat} {want t:Bool} (h1:o.guard=some (j,want)) (h2:(ops[j]?).bind (·.dst)=some d) (h3:env d=.prim (.bool t)) (h4:(t==want)=true) (h:EStep P n ops { o with guard:=none } k env σ):EStep P n ops o k env σ:=by
 intro G a w hr;have h':=h G a w hr;rw[if_pos (by simp[Region.wanted])] at h';have hz:=hr.bh d;rw[h3] at hz;have hv:=ag.aJ hz;have h5:a.tmps[d]? = some (.bool t):=by
  cases h:a.tmps[d]? with
  |none=>simp[h,undef] at hv
  |some y=>simp[h] at hv;rw[hv]
 have hw:Region.wanted o (yielded ops a.tmps)=true:=by
  simp only[Region.wanted,h1,yielded,h2,zDx,h5];cases t<;>cases want<;>first|rfl|cases h4
 rw[if_pos hw];exact h'
end Go.Ab
namespace Go.Proofs.YthiaimakjmhegaaGreatDoor.Top
open Go.Ab Go.Jo Mk
attribute [local irreducible] AWP AOps EStep AQ PStep PRun PCall TCall VCall
def hAt (l:List eo):Nat→List (Int×Int)×List (Int×Int)×Nat×List Nat
 |0=>([],[],0,[])
 |k+1=>(nH (hAt l k).1 (l.getD k default),nL (hAt l k).1 (hAt l k).2.1 (l.getD k default),nC (hAt l k).2.2.1 (hAt l k).1 (l.getD k default),nB (hAt l k).2.2.1 (hAt l k).2.2.2 (hAt l k).1 (l.getD k default))
def mD (l:List eo) (k:Nat):Bool:=decide (0<k)&&decide ((l.getD k default).time<(l.getD (k - 1) default).time)
def sm (l:List eo) (k:Nat):Bool:=sb (l.getD k default)&&!mD l k&&gj (hAt l k).1 (l.getD k default)
def nK (l:List eo):Bool:=(List.range l.length).all (sm l)&&decide (l.length≤20000)
theorem oP {l:List eo} {k:Nat} (hk:k<l.length) (h:sm l k=false):nK l=false:=by
 unfold nK;rw[show(List.range l.length).all (sm l)=false from zC6.2 ⟨k,zAs.2 hk,by rw[h];decide⟩];rfl
def B5 (l:List Nat) (o:Oper):Bool:=match o.dst with
 |some d=>decide (d∈l)
 |none=>false
abbrev shV:bc:=.var [.map 0,.map 1]
abbrev stH (q:List (Int×Int)×List (Int×Int)×Nat×List Nat) (τ:ae):ae:=.mapp q.2.2.1 q.2.2.2 (Go.Ab.aT ekI AV.int q.1)::.map (Go.Ab.aT ekI AV.int q.2.1)::shV::τ
theorem addV (q:List (Int×Int)×List (Int×Int)×Nat×List Nat) (x:eo) (τ:ae) :
 VCall Tryz.prog (.fn (.func 157) [] []) [.agg [.map 0,.map 1],.agg (bS x)] (stH q τ) (fun rv s=>rv=.b (gj q.1 x)∧s=stH (nH q.1 x,nL q.1 q.2.1 x,nC q.2.2.1 q.1 x,nB q.2.2.1 q.2.2.2 q.1 x) τ):=by
 have:=VCall.frame (TCall.val (first:=[]) (aQ:=[]) (avs:=[.agg [.map 0,.map 1],.agg (bS x)]) (by rw[zE1,zCm];exact LJ q.2.2.1 q.2.2.2 q.1 q.2.1 x)) (shV::τ) (okL _ _ _ _ _) rfl rfl (by rintro rv s' ⟨_,rfl⟩;rfl);refine VCall.mono this ?_;rintro r t ⟨t',rfl,h,rfl⟩;exact⟨h,rfl⟩
theorem okH (m:Nat) (hm:2≤m) (q:List (Int×Int)×List (Int×Int)×Nat×List Nat):(stH q []).all (aD m)=true:=by
 simp[aD,aT,aO];omega
theorem B6 (l:List eo) (hl:l.length≤1000000000):PCall Tryz.prog 102 [.sl 5 (l.map bS) .no] (.b (nK l)):=by
 refine PCall.body Tryz.func102 rfl rfl Tryz.ntmps102 rfl rfl ?_
 repeat' (first|refine qP ?_ (h:=fun hg=>by first|exact aa|exact pbD ab rfl rfl nds|exact af)|apply sqW|refine rgK fun U V=>?_|(refine aN V ?_;clear V U)|refine aS ?_|refine aA ?_|refine aoE (EStep.dn rfl rfl rfl rfl ?_)|refine blK ?_)
 refine AWP.J9 0 rfl ?_;refine lpD (ι:=Nat) (fun k=>[(0,.sl 5 (l.map bS) .no),(3,.ptr 2 0),(9,.sl 5 (l.map bS) .no),(10,.int l.length),(11,.int k)]) (fun k=>stH (hAt l k) []) (fun k=>k≤l.length∧∀j,j<k→sm l j=true) (fun k=>l.length - k) 3 (fun _=>rfl) 0 ⟨nZl _,fun j h=>absurd h oM⟩ ⟨rfl,rfl,rfl,rfl,rfl,tI⟩ rfl (fun _ _=>rfl) (fun k _=>okH 3 dCd _) ?_;rintro k ⟨hk,au⟩;by_cases hlt:k<l.length
 · obtain⟨x,hx⟩:∃x,l.getD k default=x:=⟨_,rfl⟩
   have hf:=xZ x;have hw:=addV (hAt l k) x [.var (bS x)];have hst:hAt l (k+1)=(nH (hAt l k).1 x,nL (hAt l k).1 (hAt l k).2.1 x,nC (hAt l k).2.2.1 (hAt l k).1 x,nB (hAt l k).2.2.1 (hAt l k).2.2.2 (hAt l k).1 x):=by rw[←hx];rfl
   have hln:sm l k=(sb x&&!mD l k&&gj (hAt l k).1 x):=by unfold sm;rw[hx]
   generalize hAt l k=q at *;cases hok:sb x with
   | false =>
     rw[hok] at hf hln;have hno:=oP hlt (hln.trans rfl)
     repeat' (first|refine qP ?_ (h:=fun hg=>by first|exact iX bS l ((k:Nat):Int) hx (hb:=oM)|exact aa|exact af)|apply sqW|refine rgK fun U V=>?_|(refine aN V ?_;clear V U)|refine aS ?_|refine aA ?_|refine cX ?_ ?_<;>intro hc<;>try simp only[dE] at hc|refine blK ?_|refine exW ?_|refine skW ?_|refine rtW ?_)
     all_goals (first|exact dd|skip)
     refine AWP.kR (B5 [37]) (fun _=>stH q [.var (bS x)]) rfl (by kernel_rfl) dKn rfl dKn (fun U V=>?_)
     repeat' (first
      |refine yt (h:=by refine⟨?_,?_,?_,?_⟩<;>intro hh hg<;>first|exact absurd hh dKn|exact aa|exact pc hf|exact(Bool.noConfusion (show false=true from hg):PRun _ _ _ _ (.b false))|exact(Bool.noConfusion (show false=true from hg):PRun _ _ _ _ (.int 0))|exact(Bool.noConfusion (show false=true from hg):PRun _ _ _ _ (.iptr []))|exact af|fail) (hk:=?_)|fail)
     refine YQ.e (v:=.any) (d:=some 37) rfl rfl rfl ?_ ?_
     · intro aw he;refine EStep.gn rfl rfl ((he 34 dKn).trans rfl) rfl rfl ?_;exact⟨rfl,rfl⟩
     repeat' (first
      |refine yt (h:=by refine⟨?_,?_,?_,?_⟩<;>intro hh hg<;>first|exact absurd hh dKn|exact aa|exact(Bool.noConfusion (show false=true from hg):PRun _ _ _ _ (.b false))|exact(Bool.noConfusion (show false=true from hg):PRun _ _ _ _ (.int 0))|exact(Bool.noConfusion (show false=true from hg):PRun _ _ _ _ (.iptr []))|exact af|fail) (hk:=?_)|fail)
     refine YQ.nil (V _ _ ?_);clear V U
     repeat' (first|refine qS ?_|apply sqW|refine rgK fun U V=>?_|(refine aN V ?_;clear V U)|refine cX ?_ ?_<;>intro hc<;>try simp only[dE] at hc|refine skW ?_|refine rtW ?_)
     · exact⟨.inr rfl,Ent.b hno.symm⟩
     all_goals (exfalso;simp at hc;done)
   | true =>
     rw[hok] at hf hln;by_cases h0:k=0
     · have tu:mD l k=false:=by unfold mD;rw[decide_eq_false oM];rfl
       repeat' (first|refine qP ?_ (h:=fun hg=>by first|exact iX bS l ((k:Nat):Int) hx (hb:=oM)|exact aa|exact af)|apply sqW|refine rgK fun U V=>?_|(refine aN V ?_;clear V U)|refine aS ?_|refine aA ?_|refine cX ?_ ?_<;>intro hc<;>try simp only[dE] at hc|refine blK ?_|refine exW ?_|refine skW ?_|refine rtW ?_)
       all_goals (first|exact dd|skip)
       refine AWP.kR (B5 [37]) (fun j=>match j with|0=>stH q [.var (bS x)]|_=>stH (nH q.1 x,nL q.1 q.2.1 x,nC q.2.2.1 q.1 x,nB q.2.2.1 q.2.2.2 q.1 x) [.var (bS x)]) rfl (by kernel_rfl) dKn rfl dKn (fun U V=>?_)
       repeat' (first
        |refine yt (h:=by refine⟨?_,?_,?_,?_⟩<;>intro hh hg<;>first|exact absurd hh dKn|exact PRun.eq (v:=.b (decide (((k:Nat):Int)>0))) (PRun.cZ rfl rfl nd rfl nd rfl) (show AV.b (decide (((k:Nat):Int)>0))=AV.b false from congrArg AV.b (decide_eq_false oM))|exact aa|exact pc hf|exact(Bool.noConfusion (show false=true from hg):PRun _ _ _ _ (.b false))|exact(Bool.noConfusion (show false=true from hg):PRun _ _ _ _ (.int 0))|exact(Bool.noConfusion (show false=true from hg):PRun _ _ _ _ (.iptr []))|exact af|fail) (hk:=?_)|fail)
       refine YQ.e (v:=.b (gj q.1 x)) (d:=some 37) rfl rfl rfl ?_ ?_
       · intro aw he;refine EStep.gy rfl rfl ((he 34 dKn).trans rfl) rfl ?_;refine scT hw rfl rfl rfl rfl rfl tI rfl (by simp only[rds,ai (he 35 dKn),ai (he 36 dKn)];rfl) ⟨(by rw[aj (he 35 dKn)];first|exact tI|exact rfl),(by rw[aj (he 36 dKn)];first|exact tI|exact rfl),tI⟩ ?_;rintro _ _ ⟨rfl,rfl⟩;exact⟨rfl,rfl⟩
       repeat' (first
        |refine yt (hk:=?_)|fail)
       refine YQ.nil (V _ _ ?_);clear V U
       repeat' (first|refine qS ?_|apply sqW|refine rgK fun U V=>?_|(refine aN V ?_;clear V U)|refine cX ?_ ?_<;>intro hc<;>try simp only[dE] at hc|refine skW ?_|refine rtW ?_)
       · have hA:gj q.1 x=false:=by simpa using hc
         exact⟨.inr rfl,Ent.b (oP hlt (by rw[hln,hA,zD5])).symm⟩
       · have hA:gj q.1 x=true:=by simpa using hc
         exact⟨k+1,⟨hlt,fun j hj=>aH au (by rw[hln,hA,tu];rfl) hj⟩,oM,⟨rfl,rfl,rfl,rfl,rfl,tI⟩,by rw[hst];rfl⟩
     obtain⟨p,hp⟩:∃p,l.getD (((k:Nat):Int) - 1).toNat default=p:=⟨_,rfl⟩
     have hp':l.getD (k - 1) default=p:=by rw[←hp];congr 1;omega
     by_cases ht:x.time<p.time
     · have tu:mD l k=true:=by unfold mD;rw[hx,hp',decide_eq_true ht,decide_eq_true oM];rfl
       have hno:=oP hlt (by rw[hln,tu];rfl)
       repeat' (first|refine qP ?_ (h:=fun hg=>by first|exact iX bS l ((k:Nat):Int) hx (hb:=oM)|exact aa|exact af)|apply sqW|refine rgK fun U V=>?_|(refine aN V ?_;clear V U)|refine aS ?_|refine aA ?_|refine cX ?_ ?_<;>intro hc<;>try simp only[dE] at hc|refine blK ?_|refine exW ?_|refine skW ?_|refine rtW ?_)
       all_goals (first|exact dd|skip)
       refine AWP.kR (B5 [37]) (fun _=>stH q [.var (bS x)]) rfl (by kernel_rfl) dKn rfl dKn (fun U V=>?_)
       repeat' (first
        |refine yt (h:=by refine⟨?_,?_,?_,?_⟩<;>intro hh hg<;>first|exact absurd hh dKn|exact PRun.eq (v:=.b (decide (x.time<p.time))) (PRun.cZ rfl rfl nd rfl nd rfl) (show AV.b (decide (x.time<p.time))=AV.b true from congrArg AV.b (decide_eq_true ht))|exact iX bS l (((k:Nat):Int) - 1) hp (hb:=oM)|exact PRun.eq (v:=.b (decide (((k:Nat):Int)>0))) (PRun.cZ rfl rfl nd rfl nd rfl) (show AV.b (decide (((k:Nat):Int)>0))=AV.b true from congrArg AV.b (decide_eq_true oM))|exact aa|exact pc hf|exact(Bool.noConfusion (show false=true from hg):PRun _ _ _ _ (.b false))|exact(Bool.noConfusion (show false=true from hg):PRun _ _ _ _ (.int 0))|exact(Bool.noConfusion (show false=true from hg):PRun _ _ _ _ (.iptr []))|exact af|fail) (hk:=?_)|fail)
       refine YQ.e (v:=.any) (d:=some 37) rfl rfl rfl ?_ ?_
       · intro aw he;refine EStep.gn rfl rfl ((he 34 dKn).trans rfl) rfl rfl ?_;exact⟨rfl,rfl⟩
       repeat' (first
        |refine yt (h:=by refine⟨?_,?_,?_,?_⟩<;>intro hh hg<;>first|exact absurd hh dKn|exact aa|exact(Bool.noConfusion (show false=true from hg):PRun _ _ _ _ (.b false))|exact(Bool.noConfusion (show false=true from hg):PRun _ _ _ _ (.int 0))|exact(Bool.noConfusion (show false=true from hg):PRun _ _ _ _ (.iptr []))|exact af|fail) (hk:=?_)|fail)
       refine YQ.nil (V _ _ ?_);clear V U
       repeat' (first|refine qS ?_|apply sqW|refine rgK fun U V=>?_|(refine aN V ?_;clear V U)|refine cX ?_ ?_<;>intro hc<;>try simp only[dE] at hc|refine skW ?_|refine rtW ?_)
       · exact⟨.inr rfl,Ent.b hno.symm⟩
       all_goals (exfalso;simp at hc;done)
     · have tu:mD l k=false:=by unfold mD;rw[hx,hp',decide_eq_false ht,zD5]
       repeat' (first|refine qP ?_ (h:=fun hg=>by first|exact iX bS l ((k:Nat):Int) hx (hb:=oM)|exact aa|exact af)|apply sqW|refine rgK fun U V=>?_|(refine aN V ?_;clear V U)|refine aS ?_|refine aA ?_|refine cX ?_ ?_<;>intro hc<;>try simp only[dE] at hc|refine blK ?_|refine exW ?_|refine skW ?_|refine rtW ?_)
       all_goals (first|exact dd|skip)
       refine AWP.kR (B5 [37]) (fun j=>match j with|0=>stH q [.var (bS x)]|_=>stH (nH q.1 x,nL q.1 q.2.1 x,nC q.2.2.1 q.1 x,nB q.2.2.1 q.2.2.2 q.1 x) [.var (bS x)]) rfl (by kernel_rfl) dKn rfl dKn (fun U V=>?_)
       repeat' (first
        |refine yt (h:=by refine⟨?_,?_,?_,?_⟩<;>intro hh hg<;>first|exact absurd hh dKn|exact PRun.eq (v:=.b (decide (x.time<p.time))) (PRun.cZ rfl rfl nd rfl nd rfl) (show AV.b (decide (x.time<p.time))=AV.b false from congrArg AV.b (decide_eq_false ht))|exact iX bS l (((k:Nat):Int) - 1) hp (hb:=oM)|exact PRun.eq (v:=.b (decide (((k:Nat):Int)>0))) (PRun.cZ rfl rfl nd rfl nd rfl) (show AV.b (decide (((k:Nat):Int)>0))=AV.b true from congrArg AV.b (decide_eq_true oM))|exact aa|exact pc hf|exact(Bool.noConfusion (show false=true from hg):PRun _ _ _ _ (.b false))|exact(Bool.noConfusion (show false=true from hg):PRun _ _ _ _ (.int 0))|exact(Bool.noConfusion (show false=true from hg):PRun _ _ _ _ (.iptr []))|exact af|fail) (hk:=?_)|fail)
       refine YQ.e (v:=.b (gj q.1 x)) (d:=some 37) rfl rfl rfl ?_ ?_
       · intro aw he;refine EStep.gy rfl rfl ((he 34 dKn).trans rfl) rfl ?_;refine scT hw rfl rfl rfl rfl rfl tI rfl (by simp only[rds,ai (he 35 dKn),ai (he 36 dKn)];rfl) ⟨(by rw[aj (he 35 dKn)];first|exact tI|exact rfl),(by rw[aj (he 36 dKn)];first|exact tI|exact rfl),tI⟩ ?_;rintro _ _ ⟨rfl,rfl⟩;exact⟨rfl,rfl⟩
       repeat' (first
        |refine yt (hk:=?_)|fail)
       refine YQ.nil (V _ _ ?_);clear V U
       repeat' (first|refine qS ?_|apply sqW|refine rgK fun U V=>?_|(refine aN V ?_;clear V U)|refine cX ?_ ?_<;>intro hc<;>try simp only[dE] at hc|refine skW ?_|refine rtW ?_)
       · have hA:gj q.1 x=false:=by simpa using hc
         exact⟨.inr rfl,Ent.b (oP hlt (by rw[hln,hA,zD5])).symm⟩
       · have hA:gj q.1 x=true:=by simpa using hc
         exact⟨k+1,⟨hlt,fun j hj=>aH au (by rw[hln,hA,tu];rfl) hj⟩,oM,⟨rfl,rfl,rfl,rfl,rfl,tI⟩,by rw[hst];rfl⟩
 · obtain rfl:k=l.length:=oM
   repeat' (first|refine qT ?_|apply sqW|refine rgK fun U V=>?_|(refine aN V ?_;clear V U)|refine aS ?_|refine aA ?_|refine cX ?_ ?_<;>intro hc<;>try simp only[dE] at hc|refine blK ?_|refine exW ?_|refine skW ?_|refine rtW ?_|refine kD fun U V=>?_|refine aqQ rfl rfl (fun hg=>by exact aa) (by exact rfl) ?_)
   all_goals (first|exact dd|skip)
   refine⟨.inr rfl,Ent.b ?_⟩;unfold nK;rw[show(List.range l.length).all (sm l)=true from zA4.2 fun j hj=>au j (zAs.1 hj),zAy];rw[zAi];simp;omega
end Go.Proofs.YthiaimakjmhegaaGreatDoor.Top
namespace Go.Proofs.YthiaimakjmhegaaGreatDoor.Al
open Go.Ab Go.Sort
attribute [local irreducible] AWP AOps EStep AQ PStep PRun PCall TCall VCall
def jT (s:Score):Bool:=decide ((s.bars.length:Int)≤12)&&decide ((s.parts.length:Int)≤70)&&decide ((s.notes.length:Int)≤60)
theorem zR {s:Score} (h:jT s=true):s.Small:=by
 unfold jT at h;simp only[zA0,dEt] at h;exact⟨oM,oM,oM⟩
theorem B7 (s:Score) (hs:s.qG):PCall Tryz.prog 84 [.agg (bg s)] (.b (jT s)):=by
 obtain⟨h1,h2,h3⟩:=hs;refine PCall.body Tryz.func84 rfl rfl Tryz.ntmps84 rfl rfl ?_
 repeat' (first|refine qT ?_|apply sqW|refine rgK fun U V=>?_|(refine aN V ?_;clear V U)|refine aB ?_|refine rtW ?_)
 exact⟨.inr rfl,Ent.b rfl⟩
end Go.Proofs.YthiaimakjmhegaaGreatDoor.Al
namespace Go.Ab
end Go.Ab
namespace Go.Proofs.YthiaimakjmhegaaGreatDoor.Cy
open Go.Ab Go.Sort Al
attribute [local irreducible] AWP AOps EStep AQ PStep PRun PCall TCall VCall
def atS (l:List Score) (k:Nat):Score:=l.getD k default
def fg (l:List Score) (v:Int):Int:=az (fun s:Score=>s.version==v) l
def yn (l:List Score) (v:Int):List AV:=if fg l v<0 then [.int 0,.nils,.nils,.nils] else bg (atS l (fg l v).toNat)
theorem Gu {l:List Score} {v:Int} (h:¬fg l v<0):∃k:Nat,fg l v=k∧k<l.length∧(atS l k).version=v:=by
 obtain⟨k,h1,h2,h3,_⟩:=bY (p:=fun s:Score=>s.version==v) (l:=l) (by unfold fg at h;omega);exact⟨k,h1,h2,beq_iff_eq.1 h3⟩
end Go.Proofs.YthiaimakjmhegaaGreatDoor.Cy
namespace Go.Proofs.YthiaimakjmhegaaGreatDoor.Cy
open Go.Ab Go.Sort Al
def oQ (l:List Score) (n:Nat):Bool:=(l.take 5).all jT&&(decide ((l.length:Int)≤4)&&decide ((n:Int)≤12))
theorem Gv {l:List Score} {n:Nat} (h:oQ l n=true):(∀s∈l,jT s=true)∧l.length≤4∧n≤12:=by
 unfold oQ at h;simp only[zA0,dEt,zA4] at h;refine⟨fun s hs=>h.1 s ?_,oM,oM⟩;rw[zAh oM];exact hs
end Go.Proofs.YthiaimakjmhegaaGreatDoor.Cy
namespace Go.Proofs.YthiaimakjmhegaaGreatDoor.Top
open Go.Ab Go.Sort Al Cy
attribute [local irreducible] AWP AOps EStep AQ PStep PRun PCall TCall VCall
theorem Er (s:Score):PCall Tryz.prog 69 [.agg (bg s)] (.int s.version):=by
 refine PCall.body Tryz.func69 rfl rfl Tryz.ntmps69 rfl rfl ?_
 repeat' (first|refine qS ?_|apply sqW|refine rgK fun U V=>?_|(refine aN V ?_;clear V U)|refine aB ?_|refine rtW ?_)
 exact⟨.inr rfl,Ent.int rfl⟩
theorem Gw (s:Score) (v:Int):PCall Tryz.prog 142 [.agg (bg s),.iptr [.fn (.func 69) [] []],.iptr [.int v]] (.b (s.version==v)):=by
 refine PCall.body Tryz.func142 rfl rfl Tryz.ntmps142 rfl rfl ?_
 repeat' (first|refine qS ?_|apply sqW|refine rgK fun U V=>?_|(refine aN V ?_;clear V U)|refine aB ?_|refine rtW ?_|refine kD fun U V=>?_|(refine aqN (V _ ?_);clear V U)|refine aqQ rfl rfl (fun hg=>by first|exact aa|exact pc (Er s)|exact af|fail) (by exact rfl) ?_)
 exact⟨.inr rfl,Ent.b rfl⟩
theorem B8 (l:List Score) (fv:AV) (p:Score→Bool) (hp:∀x∈l,bF Tryz.prog fv [.agg (bg x)] (.b (p x))) (hl:l.length≤9223372036854775807) :
 PCall Tryz.prog 141 [.sl 4 (l.map bg) .no,fv] (.int (az p l)):=by
 refine PCall.di [1] Tryz.func141 rfl rfl Tryz.ntmps141 rfl rfl ?_
 repeat' (first|refine qT ?_|apply sqW|refine rgK fun U V=>?_|(refine aN V ?_;clear V U)|refine blK ?_)
 refine lpW (ι:=Nat) (fun k=>[(0,.sl 4 (l.map bg) .no),(1,.ext fv),(7,.int l.length),(8,.int k)]) (fun _=>[]) (fun k=>k≤l.length∧∀j,j<k→p (l.getD j default)=false) (fun k=>l.length - k) 0 ⟨nZl _,fun j h=>absurd h oM⟩ ⟨rfl,rfl,rfl,rfl,tI⟩ rfl ?_;rintro k ⟨hk,au⟩;by_cases hlt:k<l.length
 · repeat' (first|refine qP ?_ (h:=fun hg=>by first|exact aa|exact PRun.fx (hp _ (dD hlt)) rfl rfl nd rfl nds|exact af)|apply sqW|refine rgK fun U V=>?_|(refine aN V ?_;clear V U)|refine cX ?_ ?_<;>intro hc<;>try simp only[dE] at hc|refine blK ?_|refine exW ?_|refine skW ?_|refine rtW ?_)
   · refine⟨.inr rfl,?_⟩;rw[show az p l=k from bP hlt hc au];exact fun _ _ h=>h
   · exact⟨k+1,⟨oM,fun j hj=>aH au hc hj⟩,oM,⟨rfl,rfl,rfl,rfl,tI⟩,rfl⟩
   · exfalso;omega
 · repeat' (first|refine qT ?_|apply sqW|refine rgK fun U V=>?_|(refine aN V ?_;clear V U)|refine cX ?_ ?_<;>intro hc<;>try simp only[dE] at hc|refine blK ?_|refine exW ?_|refine skW ?_|refine rtW ?_)
   · exfalso;omega
   · refine⟨.inr rfl,?_⟩;rw[show az p l = -1 from bX fun j hj=>au j oM];exact fun _ _ h=>h
theorem zS (l:List Score) (hl:l.length≤9223372036854775807) (v:Int) :
 PCall Tryz.prog 68 [.sl 4 (l.map bg) .no,.int v,.fn (.func 69) [] []] (.tup [.agg (yn l v),.b (!decide (fg l v<0))]):=by
 have h1:=B8 l (.fn (.func 142) [] [.iptr [.fn (.func 69) [] []],.iptr [.int v]]) (fun s=>s.version==v) (fun x _=>⟨_,[],_,rfl,Gw x v⟩) hl;rw[show az (fun s:Score=>s.version==v) l=fg l v from rfl] at h1;refine PCall.bN ab Tryz.func68 rfl rfl Tryz.ntmps68 rfl ?_;by_cases hf:fg l v<0
 · have e:yn l v=[.int 0,.nils,.nils,.nils]:=if_pos hf;rw[e,decide_eq_true hf]
   repeat' (first|refine qP ?_ (h:=fun hg=>by first|exact aa|exact pbW (h1) rfl rfl nd rfl rfl nds|exact af)|apply sqW|refine rgK fun U V=>?_|(refine aN V ?_;clear V U)|refine aB ?_|refine aS ?_|refine aA ?_|refine cX ?_ ?_<;>intro hc<;>try simp only[dE] at hc|refine skW ?_|refine rtW ?_)
   all_goals (first|exact dd|skip)
   exact⟨.inr rfl,_,rfl,Ent.of rfl⟩
 · have e:yn l v=bg (atS l (fg l v).toNat):=if_neg hf;rw[e,decide_eq_false hf];obtain⟨k,hk,hlt,_⟩:=Gu hf;rw[hk] at h1 ⊢;rw[zAe];obtain⟨s,hs⟩:∃s,atS l k=s:=⟨_,rfl⟩
   rw[hs]
   repeat' (first|refine qP ?_ (h:=fun hg=>by first|exact iX bg l (((k):Nat):Int) hs (hb:=oM)|exact aa|exact pbW (h1) rfl rfl nd rfl rfl nds|exact af|fail)|apply sqW|refine rgK fun U V=>?_|(refine aN V ?_;clear V U)|refine aB ?_|refine aS ?_|refine aA ?_|refine cX ?_ ?_<;>intro hc<;>try simp only[dE] at hc|refine skW ?_|refine rtW ?_)
   all_goals (first|exact dd|skip)
   exact⟨.inr rfl,_,rfl,Ent.of rfl⟩
end Go.Proofs.YthiaimakjmhegaaGreatDoor.Top
