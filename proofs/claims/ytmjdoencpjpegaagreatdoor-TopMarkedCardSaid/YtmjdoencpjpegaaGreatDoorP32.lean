/- Parts of the proof. No statement is proved here. -/
import Derived.Test.YtmjdoencpjpegaaGreatDoorP27
import Derived.Test.YtmjdoencpjpegaaGreatDoorP28
import Derived.Test.YtmjdoencpjpegaaGreatDoorP30
import Derived.Test.YtmjdoencpjpegaaGreatDoorP31
set_option linter.unusedVariables false
set_option linter.unusedSimpArgs false
set_option maxHeartbeats 16000000
set_option maxRecDepth 20000
namespace Go.Ab
theorem EStep.vt {P:Program} {n:Nat} {ops:Array Oper} {o:Oper} {env:Env} {σ:aa} {T:Tab} {k:Env→aa→Prop} (hT:T.Ok P) {s x:Operand} {t tx e:TypeId} {d l sz ver m wm:Nat} {es es2 es3:List (List AV)} {u S:AV} {s1 b1:Nat} {z:List Z} {le:LI} (ho:o.op=.call { callee:=.builtin .append,args:=#[s,x],argTypes:=#[t,tx] })
 (hg:o.guard=none) (hd:o.dst=some d) (hdn:d<n) (hs:Rd env s S) (hS0:S=.sla l sz 0 es.length ver∧es≠[]∨S=.sl sz [] (.own l)∧es=[]∧ver=0) (hσ:σ[l]? = some (.arr sz ver es)) (hx:Rd env x u) (gp:fy T tx sz u es2) (cC:0<es2.length)
 (hl:LOk P t ⟨.slice e,s1,b1,z⟩) (he:LOk P e le) (hsz:le.size=sz) (hz0:le.zero.length=le.size) (hbound:(es.length+es2.length) * le.bytes≤140737488355328) (hb2:es.length+es2.length≤9223372036854775807) (hm:es.length+es2.length=m) (h3:es++es2=es3) (hv:ver+1=wm)
 (hk:k (env.put d (.sla l sz 0 m wm)) (σ.set l (.arr sz wm es3))):EStep P n ops o k env σ:=by
 subst hv;exact EStep.gW hT ho hg hd hdn hs hS0 hσ hx gp cC hl he hsz hz0 hbound hb2 hm h3 hk
end Go.Ab
namespace Go.Proofs.YtmjdoencpjpegaaGreatDoor.Al
open Go.Ab Go.Sort
attribute [local irreducible] AWP AOps EStep AQ PStep PRun PCall TCall VCall
def qi (l:PL):AV:=match l with
 |[]=>.sl 2 [] (.own 13)
 |_::_=>.sla 13 2 0 l.length l.length
def tX (a b:Score):AV:=.sl 1 ((bK (aw a b) (a.bars.length+1) (b.bars.length+1)).map cG) .no
def BX (a b:Score) (i k:Nat) (acc:PL):aa:=[.var [.ptr 7 0],.var [tX a b],.arr 1 1 [[.int i]],.arr 1 1 [[.int k]],.var [qi acc,.int (T (aw a b) a.bars.length b.bars.length),tX a b],.arr 2 acc.length (acc.map bz)]
def BO (a b:Score):aF×aF×aF:=(.var (encS a),.var (encS b),.var [.nils,.int 0,.nils])
def BS (a b:Score) (al:NL) (kn:KL) (i k:Nat) (acc:PL):aa:=cM (BO a b).1 (BO a b).2.1 (BO a b).2.2 a b al kn++BX a b i k acc
theorem sF (a b:Score):nS (BO a b).1 (BO a b).2.1 (BO a b).2.2:=fun _=>⟨rfl,rfl,rfl⟩
theorem okX (x:AV) (m:Nat) (h:aG m 3 x=true) (c:Int) (y:AV) (hy:aG m 3 y=true):ak m (.var [x,.int c,y])=true:=by
 show(aG m 3 x&&(true&&(aG m 3 y&&true)))=true;rw[h,hy];rfl
theorem Ni (a b:Score) (i k:Nat) (acc:PL):(BX a b i k acc).all (ak 14)=true:=by
 have h1:=okX (qi acc) 14 (by cases acc<;>rfl) (T (aw a b) a.bars.length b.bars.length) (tX a b) rfl;simp only[BX,zAq,zAu,h1,FP];rfl
theorem nZ (a b:Score) (al:NL) (kn:KL) (i k:Nat) (acc:PL):(BS a b al kn i k acc).all (ak 14)=true:=by
 unfold BS;rw[zBs,Ni,cT (sF a b) dCd a b al kn];rfl
def yb (a b:Score) (al:NL) (i k:Nat) (acc:PL) (r:AV) (s:aa):Prop :=
 r=.tup []∧∃(kn':KL) (i' k':Nat) (Im:PL),gv a b kn'∧i'≤i∧k'≤k∧i'+k'<i+k∧Im.length+i'≤acc.length+i∧Im++ip (back (aw a b) i' k')=acc++ip (back (aw a b) i k)∧s=BS a b al kn' i' k' Im
theorem F1 {a b:Score} (ha:Nts a) (hb:Nts b) {al:NL} (hg0:Grp a b al) {kn:KL} (hkn:gv a b kn) {j:Nat} (hk:j+1≤b.bars.length) (acc:PL) :
 TCall Tryz.prog 199 [.bo 10 1 0 0 1,.bo 11 1 0 0 1,.ptr 9 0,.ptr 8 0,.ptr 12 0] (BS a b al kn 0 (j+1) acc) (yb a b al 0 (j+1) acc):=by
 have hb1:=hb.bars;refine TCall.body Tryz.func199 rfl rfl Tryz.ntmps199 rfl rfl ?_
 repeat' (first|refine qP ?_ (h:=fun hg=>by first|exact PRun.eq (v:=.int ((((j+1:Nat):Int)) - 1)) (PRun.step ab rfl sd) (congrArg AV.int (show(((j+1:Nat):Int) - 1)=((j:Nat):Int) by omega))|exact ae|exact PRun.cZ ab rfl rfl nd rfl (zAa _) rfl rfl rfl|exact(by(exfalso;simp at hg<;>fail):PRun _ _ _ _ (.b false))|exact ah)|apply sqW|refine rgK fun U V=>?_|(refine aN V ?_;clear V U)|refine aoE (EStep.dK (l:=11) ab rfl rfl rfl tI rfl (zAa _) rfl tI rfl rfl rfl rfl rfl rfl ?_)|refine cX ?_ ?_<;>intro hc<;>try simp only[dE] at hc|refine blK ?_|refine kD fun U V=>?_|(refine aqN (V _ ?_);clear V U)|refine aqQ rfl rfl (fun hg=>by first|exact PRun.eq (v:=.int ((((j+1:Nat):Int)) - 1)) (PRun.step ab rfl sd) (congrArg AV.int (show(((j+1:Nat):Int) - 1)=((j:Nat):Int) by omega))|exact ae|exact PRun.cZ ab rfl rfl nd rfl (zAa _) rfl rfl rfl|exact(by(exfalso;simp at hg<;>fail):PRun _ _ _ _ (.b false))|exact ah) (by exact rfl) ?_)
 all_goals (first|exact dd|skip)
 exact⟨.inl rfl,.tup [],BS a b al kn 0 j acc,⟨rfl,kn,0,j,acc,hkn,nLr _,zBl _,oM,nLr _,by rw[xo (.inl rfl)],rfl⟩,rfl,by show 14≤14;decide,nZ a b al _ _ _ _,rfl,rfl⟩
theorem K3 {a b:Score} (ha:Nts a) (hb:Nts b) {al:NL} (hg0:Grp a b al) {kn:KL} (hkn:gv a b kn) {i:Nat} (hi:i+1≤a.bars.length) (acc:PL) :
 TCall Tryz.prog 199 [.bo 10 1 0 0 1,.bo 11 1 0 0 1,.ptr 9 0,.ptr 8 0,.ptr 12 0] (BS a b al kn (i+1) 0 acc) (yb a b al (i+1) 0 acc):=by
 have ha1:=ha.bars;have hb1:=hb.bars;have l1:=kM (aw a b) (a.bars.length+1) (b.bars.length+1);have t1:=jv (c:=aw a b) (i+1);have t2:=jv (c:=aw a b) i;refine TCall.body Tryz.func199 rfl rfl Tryz.ntmps199 rfl rfl ?_
 repeat' (first|refine qP ?_ (h:=fun hg=>by first|exact PRun.eq (v:=.int ((((i+1:Nat):Int)) - 1)) (PRun.step ab rfl sd) (congrArg AV.int (show(((i+1:Nat):Int) - 1)=((i:Nat):Int) by omega))|exact ae|exact PRun.cZ ab rfl rfl nd rfl (zAa _) rfl rfl rfl|exact(by(exfalso;simp at hg<;>fail):PRun _ _ _ _ (.b false))|exact ah)|apply sqW|refine rgK fun U V=>?_|(refine aN V ?_;clear V U)|refine aoE (EStep.dK (l:=10) ab rfl rfl rfl tI rfl (zAa _) rfl tI rfl rfl rfl rfl rfl rfl ?_)|refine cX ?_ ?_<;>intro hc<;>try simp only[dE] at hc|refine blK ?_|refine kD fun U V=>?_|(refine aqN (V _ ?_);clear V U)|refine aqQ rfl rfl (fun hg=>by first|exact iX encI (bU (aw a b) i (b.bars.length+1)) ((0:Nat):Int) (x:=T (aw a b) i 0) (dM oM _) (hb:=by rw[fG];omega)|exact iX encI (bU (aw a b) (i+1) (b.bars.length+1)) ((0:Nat):Int) (x:=T (aw a b) (i+1) 0) (dM oM _) (hb:=by rw[fG];omega)|exact iX cG (bK (aw a b) (a.bars.length+1) (b.bars.length+1)) ((i:Nat):Int) (x:=bU (aw a b) i (b.bars.length+1)) (fm oM _) (hb:=by rw[l1];omega)|exact iX cG (bK (aw a b) (a.bars.length+1) (b.bars.length+1)) ((i+1:Nat):Int) (x:=bU (aw a b) (i+1) (b.bars.length+1)) (fm oM _) (hb:=by rw[l1];omega)|exact PRun.eq (v:=.int ((((i+1:Nat):Int)) - 1)) (PRun.step ab rfl sd) (congrArg AV.int (show(((i+1:Nat):Int) - 1)=((i:Nat):Int) by omega))|exact ae|exact PRun.cZ ab rfl rfl nd rfl (zAa _) rfl rfl rfl|exact(by(exfalso;simp at hg<;>fail):PRun _ _ _ _ (.b false))|exact ah) (by exact rfl) ?_)
 all_goals (first|exact dd|skip)
 exact⟨.inl rfl,.tup [],BS a b al kn i 0 acc,⟨rfl,kn,i,0,acc,hkn,zBl _,nLr _,oM,oM,by rw[Cb (.inl rfl) oM],rfl⟩,rfl,by show 14≤14;decide,nZ a b al _ _ _ _,rfl,rfl⟩
theorem F2 {a b:Score} (ha:Nts a) (hb:Nts b) {al:NL} (hg0:Grp a b al) {kn:KL} (hkn:gv a b kn) {i j:Nat} (hi:i+1≤a.bars.length) (hk:j+1≤b.bars.length) (acc:PL) (Io:acc.length≤1000000) :
 TCall Tryz.prog 199 [.bo 10 1 0 0 1,.bo 11 1 0 0 1,.ptr 9 0,.ptr 8 0,.ptr 12 0] (BS a b al kn (i+1) (j+1) acc) (yb a b al (i+1) (j+1) acc):=by
 have ha1:=ha.bars;have hb1:=hb.bars;have l1:=kM (aw a b) (a.bars.length+1) (b.bars.length+1);have t1:=tN a b (i+1) (j+1);have t2:=tN a b i j;have t3:=tN a b i (j+1);have c1:=tE a b i j;have hk2:=hkn.knI i j;have hc0:=TCall.val (first:=[]) (aM:=[]) (avs:=[.ptr 7 0,.int i,.int j]) (TCall.frame (xd (sF a b) ha hb hg0 hkn (show i<a.bars.length by omega) (show j<b.bars.length by omega)) (BX a b (i+1) (j+1) acc) (cT (sF a b) (nLr _) a b al _) rfl (fun rv s h=>by rw[h.2];rfl));have hp1:=F0 (c:=aw a b) (i:=i) (k:=j);have hp2:=Cb (c:=aw a b) (i:=i) (k:=j+1);have hp3:=xo (c:=aw a b) (i:=i+1) (k:=j);refine TCall.body Tryz.func199 rfl rfl Tryz.ntmps199 rfl rfl ?_
 repeat' (first|apply sqW|refine blK ?_)
 refine AWP.gj Jx (fun q=>match q with|0=>BS a b al kn (i+1) (j+1) acc|_=>BS a b al (knI a b kn i j) (i+1) (j+1) acc) rfl (by kernel_rfl) dKn rfl dKn (fun U V=>?_)
 repeat' (first
  |refine yt (h:=by refine⟨?_,?_,?_,?_⟩<;>intro hh hg<;>first|exact absurd hh dKn|exact iX encI (bU (aw a b) i (b.bars.length+1)) ((j+1:Nat):Int) (x:=T (aw a b) i (j+1)) (dM oM _) (hb:=by rw[fG];omega)|exact iX encI (bU (aw a b) i (b.bars.length+1)) ((j:Nat):Int) (x:=T (aw a b) i j) (dM oM _) (hb:=by rw[fG];omega)|exact iX encI (bU (aw a b) (i+1) (b.bars.length+1)) ((j+1:Nat):Int) (x:=T (aw a b) (i+1) (j+1)) (dM oM _) (hb:=by rw[fG];omega)|exact iX cG (bK (aw a b) (a.bars.length+1) (b.bars.length+1)) ((i:Nat):Int) (x:=bU (aw a b) i (b.bars.length+1)) (fm oM _) (hb:=by rw[l1];omega)|exact iX cG (bK (aw a b) (a.bars.length+1) (b.bars.length+1)) ((i+1:Nat):Int) (x:=bU (aw a b) (i+1) (b.bars.length+1)) (fm oM _) (hb:=by rw[l1];omega)|exact PRun.eq (v:=.int ((((j+1:Nat):Int)) - 1)) (PRun.step ab rfl sd) (congrArg AV.int (show(((j+1:Nat):Int) - 1)=((j:Nat):Int) by omega))|exact PRun.eq (v:=.int ((((i+1:Nat):Int)) - 1)) (PRun.step ab rfl sd) (congrArg AV.int (show(((i+1:Nat):Int) - 1)=((i:Nat):Int) by omega))|exact PRun.eq (PRun.qI rfl rfl nd rfl nd rfl) (show AV.b (decide (((j+1:Nat):Int)>0))=AV.b true from congrArg AV.b (decide_eq_true oM))|exact PRun.eq (PRun.qI rfl rfl nd rfl nd rfl) (show AV.b (decide (((i+1:Nat):Int)>0))=AV.b true from congrArg AV.b (decide_eq_true oM))|exact ae|exact PRun.cZ ab rfl rfl nd rfl (zAa _) rfl rfl rfl|exact ah|fail) (hk:=?_)|fail)
 refine YQ.e (v:=.int (aw a b i j)) (d:=some 36) rfl rfl rfl ?_ ?_
 · intro au he;refine EStep.gd (tT rfl rfl ((he 14 dKn).trans rfl)) rfl (scT hc0 rfl rfl rfl rfl rfl tI rfl (by simp only[rds,ai (he 31 dKn),ai (he 33 dKn),ai (he 35 dKn)];rfl) ⟨(by rw[aj (he 31 dKn)];first|exact tI|exact rfl),(by rw[aj (he 33 dKn)];first|exact tI|exact rfl),(by rw[aj (he 35 dKn)];first|exact tI|exact rfl),tI⟩ ?_);rintro _ _ ⟨σ',rfl,rfl,rfl⟩;exact⟨rfl,rfl⟩
 repeat' (first
  |refine yt (h:=by refine⟨?_,?_,?_,?_⟩<;>intro hh hg<;>first|exact absurd hh dKn|exact ae|exact PRun.cZ ab rfl rfl nd rfl (zAa _) rfl rfl rfl|exact ah|fail) (hk:=?_)|fail)
 refine YQ.nil (V _ _ ?_);clear V U hc0;clear hkn;generalize hkk:knI a b kn i j=kn1 at *;refine cdW rfl tI (fun hc=>?_) (fun hc=>?_)
 · have heq:T (aw a b) (i+1) (j+1)=T (aw a b) i j+aw a b i j:=by simp only[zAj,zBn,zA0,zAl,zBr,dEt,dEf,zB1,zB0,beq_iff_eq,beq_eq_false_iff_ne,bne_iff_ne,bne_eq_false_iff_eq,gt_iff_lt,ge_iff_le,ne_eq] at hc;simpa using hc
   clear hc;cases acc with
   | nil =>
     repeat' (first|refine sqW ?_)
     refine AWP.gj dJ (fun q=>match q with|0=>BS a b al kn1 (i+1) (j+1) []|1=>BS a b al kn1 i (j+1) []|_=>BS a b al kn1 i j []) rfl (by kernel_rfl) dKn rfl dKn (fun U V=>?_)
     repeat' (first
      |refine yt (h:=by refine⟨?_,?_,?_,?_⟩<;>intro hh hg<;>first|exact absurd hh dKn|exact PRun.eq (v:=.int ((((j+1:Nat):Int)) - 1)) (PRun.step ab rfl sd) (congrArg AV.int (show(((j+1:Nat):Int) - 1)=((j:Nat):Int) by omega))|exact PRun.eq (v:=.int ((((i+1:Nat):Int)) - 1)) (PRun.step ab rfl sd) (congrArg AV.int (show(((i+1:Nat):Int) - 1)=((i:Nat):Int) by omega))|exact ae|exact PRun.cZ ab rfl rfl nd rfl (zAa _) rfl rfl rfl|exact ah|fail) (hk:=?_)|fail)
     refine YQ.e (v:=.any) (d:=none) rfl rfl rfl ?_ ?_
     · intro au he;exact EStep.dK (l:=10) ab rfl rfl ((ai (he 0 dKn)).trans rfl) (by rw[aj (he 0 dKn)];first|exact tI|exact rfl) rfl (zAa _) ((ai (he 41 dKn)).trans rfl) (by rw[aj (he 41 dKn)];first|exact tI|exact rfl) rfl rfl rfl rfl rfl rfl ⟨rfl,rfl⟩
     repeat' (first
      |refine yt (h:=by refine⟨?_,?_,?_,?_⟩<;>intro hh hg<;>first|exact absurd hh dKn|exact PRun.eq (v:=.int ((((j+1:Nat):Int)) - 1)) (PRun.step ab rfl sd) (congrArg AV.int (show(((j+1:Nat):Int) - 1)=((j:Nat):Int) by omega))|exact PRun.eq (v:=.int ((((i+1:Nat):Int)) - 1)) (PRun.step ab rfl sd) (congrArg AV.int (show(((i+1:Nat):Int) - 1)=((i:Nat):Int) by omega))|exact ae|exact PRun.cZ ab rfl rfl nd rfl (zAa _) rfl rfl rfl|exact ah|fail) (hk:=?_)|fail)
     refine YQ.e (v:=.any) (d:=none) rfl rfl rfl ?_ ?_
     · intro au he;exact EStep.dK (l:=11) ab rfl rfl ((ai (he 1 dKn)).trans rfl) (by rw[aj (he 1 dKn)];first|exact tI|exact rfl) rfl (zAa _) ((ai (he 43 dKn)).trans rfl) (by rw[aj (he 43 dKn)];first|exact tI|exact rfl) rfl rfl rfl rfl rfl rfl ⟨rfl,rfl⟩
     refine YQ.nil (V _ _ ?_);clear V U;show AWP _ _ _ _ _ (BS a b al kn1 i j [])
     repeat' (first|refine qP ?_ (h:=fun hg=>by first|exact ae|exact PRun.cZ ab rfl rfl nd rfl (zAa _) rfl rfl rfl|exact pbD ab rfl rfl nds|exact pbS ab rfl rfl nds|exact ah)|refine rgK fun U V=>?_)
     refine aoE (EStep.vt (l:=13) (sz:=2) (es:=([]).map bz) (ver:=([]).length) (m:=([]++[((i:Int),(j:Int))]).length) (es3:=([]++[((i:Int),(j:Int))]).map bz) (wm:=([]++[((i:Int),(j:Int))]).length) ab rfl rfl rfl dCd (Rd.w rfl tI) (.inr ⟨rfl,rfl,rfl⟩) rfl (Rd.w rfl tI) (.sl rfl (by intro x hx;rcases zA9.1 hx with rfl;rfl)) (zAa _) (lkG rfl) (lkG rfl) rfl rfl (by simp only[lLm,zAc,zAi];omega) (by simp only[lLm,zAc,zAi];omega) sMp (by rw[zAz];rfl) sMp ?_)
     repeat' (first|refine qS ?_|(refine aN V ?_;clear V U)|refine aS ?_)
     all_goals (first|exact dd|skip)
     exact⟨.inl rfl,.tup [],BS a b al kn1 i j ([]++[((i:Int),(j:Int))]),⟨rfl,kn1,i,j,[]++[((i:Int),(j:Int))],hk2,zBl _,zBl _,oM,by simp;omega,by rw[hp1 heq,zBo];rfl,rfl⟩,rfl,by show 14≤14;decide,nZ a b al _ _ _ _,rfl,rfl⟩
   | cons z acc =>
     repeat' (first|refine sqW ?_)
     refine AWP.gj dJ (fun q=>match q with|0=>BS a b al kn1 (i+1) (j+1) (z::acc)|1=>BS a b al kn1 i (j+1) (z::acc)|_=>BS a b al kn1 i j (z::acc)) rfl (by kernel_rfl) dKn rfl dKn (fun U V=>?_)
     repeat' (first
      |refine yt (h:=by refine⟨?_,?_,?_,?_⟩<;>intro hh hg<;>first|exact absurd hh dKn|exact PRun.eq (v:=.int ((((j+1:Nat):Int)) - 1)) (PRun.step ab rfl sd) (congrArg AV.int (show(((j+1:Nat):Int) - 1)=((j:Nat):Int) by omega))|exact PRun.eq (v:=.int ((((i+1:Nat):Int)) - 1)) (PRun.step ab rfl sd) (congrArg AV.int (show(((i+1:Nat):Int) - 1)=((i:Nat):Int) by omega))|exact ae|exact PRun.cZ ab rfl rfl nd rfl (zAa _) rfl rfl rfl|exact ah|fail) (hk:=?_)|fail)
     refine YQ.e (v:=.any) (d:=none) rfl rfl rfl ?_ ?_
     · intro au he;exact EStep.dK (l:=10) ab rfl rfl ((ai (he 0 dKn)).trans rfl) (by rw[aj (he 0 dKn)];first|exact tI|exact rfl) rfl (zAa _) ((ai (he 41 dKn)).trans rfl) (by rw[aj (he 41 dKn)];first|exact tI|exact rfl) rfl rfl rfl rfl rfl rfl ⟨rfl,rfl⟩
     repeat' (first
      |refine yt (h:=by refine⟨?_,?_,?_,?_⟩<;>intro hh hg<;>first|exact absurd hh dKn|exact PRun.eq (v:=.int ((((j+1:Nat):Int)) - 1)) (PRun.step ab rfl sd) (congrArg AV.int (show(((j+1:Nat):Int) - 1)=((j:Nat):Int) by omega))|exact PRun.eq (v:=.int ((((i+1:Nat):Int)) - 1)) (PRun.step ab rfl sd) (congrArg AV.int (show(((i+1:Nat):Int) - 1)=((i:Nat):Int) by omega))|exact ae|exact PRun.cZ ab rfl rfl nd rfl (zAa _) rfl rfl rfl|exact ah|fail) (hk:=?_)|fail)
     refine YQ.e (v:=.any) (d:=none) rfl rfl rfl ?_ ?_
     · intro au he;exact EStep.dK (l:=11) ab rfl rfl ((ai (he 1 dKn)).trans rfl) (by rw[aj (he 1 dKn)];first|exact tI|exact rfl) rfl (zAa _) ((ai (he 43 dKn)).trans rfl) (by rw[aj (he 43 dKn)];first|exact tI|exact rfl) rfl rfl rfl rfl rfl rfl ⟨rfl,rfl⟩
     refine YQ.nil (V _ _ ?_);clear V U;show AWP _ _ _ _ _ (BS a b al kn1 i j (z::acc))
     repeat' (first|refine qP ?_ (h:=fun hg=>by first|exact ae|exact PRun.cZ ab rfl rfl nd rfl (zAa _) rfl rfl rfl|exact pbD ab rfl rfl nds|exact pbS ab rfl rfl nds|exact ah)|refine rgK fun U V=>?_)
     simp only[zAc] at Io;refine aoE (EStep.vt (l:=13) (sz:=2) (es:=((z::acc)).map bz) (ver:=((z::acc)).length) (m:=((z::acc)++[((i:Int),(j:Int))]).length) (es3:=((z::acc)++[((i:Int),(j:Int))]).map bz) (wm:=((z::acc)++[((i:Int),(j:Int))]).length) ab rfl rfl rfl dCd (Rd.w rfl tI) (.inl ⟨by rw[lLm],by simp⟩) rfl (Rd.w rfl tI) (.sl rfl (by intro x hx;rcases zA9.1 hx with rfl;rfl)) (zAa _) (lkG rfl) (lkG rfl) rfl rfl (by simp only[lLm,zAc,zAi];omega) (by simp only[lLm,zAc,zAi];omega) sMp (by rw[zAz];rfl) sMp ?_)
     repeat' (first|refine qS ?_|(refine aN V ?_;clear V U)|refine aS ?_)
     all_goals (first|exact dd|skip)
     exact⟨.inl rfl,.tup [],BS a b al kn1 i j ((z::acc)++[((i:Int),(j:Int))]),⟨rfl,kn1,i,j,(z::acc)++[((i:Int),(j:Int))],hk2,zBl _,zBl _,oM,by simp;omega,by rw[hp1 heq,zBo];rfl,rfl⟩,rfl,by show 14≤14;decide,nZ a b al _ _ _ _,rfl,rfl⟩
 · have hne:T (aw a b) (i+1) (j+1)≠T (aw a b) i j+aw a b i j:=by simp only[zAj,zBn,zA0,zAl,zBr,dEt,dEf,zB1,zB0,beq_iff_eq,beq_eq_false_iff_ne,bne_iff_ne,bne_eq_false_iff_eq,gt_iff_lt,ge_iff_le,ne_eq] at hc;simpa using hc
   clear hc
   repeat' (first|refine qP ?_ (h:=fun hg=>by first|exact PRun.eq (v:=.int ((((j+1:Nat):Int)) - 1)) (PRun.step ab rfl sd) (congrArg AV.int (show(((j+1:Nat):Int) - 1)=((j:Nat):Int) by omega))|exact PRun.eq (v:=.int ((((i+1:Nat):Int)) - 1)) (PRun.step ab rfl sd) (congrArg AV.int (show(((i+1:Nat):Int) - 1)=((i:Nat):Int) by omega))|exact PRun.cZ ab rfl rfl nd rfl (zAa _) rfl rfl rfl)|apply sqW|refine rgK fun U V=>?_|(refine aN V ?_;clear V U)|refine aoE (EStep.dK (l:=10) ab rfl rfl rfl tI rfl (zAa _) rfl tI rfl rfl rfl rfl rfl rfl ?_)|refine aoE (EStep.dK (l:=11) ab rfl rfl rfl tI rfl (zAa _) rfl tI rfl rfl rfl rfl rfl rfl ?_)|refine cX ?_ ?_<;>intro hc<;>try simp only[dE] at hc|refine kD fun U V=>?_|(refine aqN (V _ ?_);clear V U)|refine aqQ rfl rfl (fun hg=>by first|exact iX encI (bU (aw a b) i (b.bars.length+1)) ((j+1:Nat):Int) (x:=T (aw a b) i (j+1)) (dM oM _) (hb:=by rw[fG];omega)|exact iX encI (bU (aw a b) (i+1) (b.bars.length+1)) ((j+1:Nat):Int) (x:=T (aw a b) (i+1) (j+1)) (dM oM _) (hb:=by rw[fG];omega)|exact iX cG (bK (aw a b) (a.bars.length+1) (b.bars.length+1)) ((i:Nat):Int) (x:=bU (aw a b) i (b.bars.length+1)) (fm oM _) (hb:=by rw[l1];omega)|exact iX cG (bK (aw a b) (a.bars.length+1) (b.bars.length+1)) ((i+1:Nat):Int) (x:=bU (aw a b) (i+1) (b.bars.length+1)) (fm oM _) (hb:=by rw[l1];omega)|exact PRun.eq (v:=.int ((((i+1:Nat):Int)) - 1)) (PRun.step ab rfl sd) (congrArg AV.int (show(((i+1:Nat):Int) - 1)=((i:Nat):Int) by omega))|exact PRun.eq (PRun.qI rfl rfl nd rfl nd rfl) (show AV.b (decide (((i+1:Nat):Int)>0))=AV.b true from congrArg AV.b (decide_eq_true oM))|exact ae|exact PRun.cZ ab rfl rfl nd rfl (zAa _) rfl rfl rfl|exact ah) (by exact rfl) ?_)
   all_goals (first|exact dd|skip)
   · have heq:T (aw a b) (i+1) (j+1)=T (aw a b) i (j+1)+2:=by simp only[zAj,zBn,zA0,zAl,zBr,dEt,dEf,zB1,zB0,beq_iff_eq,beq_eq_false_iff_ne,bne_iff_ne,bne_eq_false_iff_eq,gt_iff_lt,ge_iff_le,ne_eq] at hc;simpa using hc
     exact⟨.inl rfl,.tup [],BS a b al kn1 i (j+1) acc,⟨rfl,kn1,i,j+1,acc,hk2,zBl _,nLr _,oM,oM,by rw[hp2 (.inr ⟨j,rfl,hne⟩) heq],rfl⟩,rfl,by show 14≤14;decide,nZ a b al _ _ _ _,rfl,rfl⟩
   · have mT:T (aw a b) (i+1) (j+1)≠T (aw a b) i (j+1)+2:=by simp only[zAj,zBn,zA0,zAl,zBr,dEt,dEf,zB1,zB0,beq_iff_eq,beq_eq_false_iff_ne,bne_iff_ne,bne_eq_false_iff_eq,gt_iff_lt,ge_iff_le,ne_eq] at hc;simpa using hc
     exact⟨.inl rfl,.tup [],BS a b al kn1 (i+1) j acc,⟨rfl,kn1,i+1,j,acc,hk2,nLr _,zBl _,oM,nLr _,by rw[hp3 (.inr ⟨i,rfl,hne,mT⟩)],rfl⟩,rfl,by show 14≤14;decide,nZ a b al _ _ _ _,rfl,rfl⟩
end Go.Proofs.YtmjdoencpjpegaaGreatDoor.Al
