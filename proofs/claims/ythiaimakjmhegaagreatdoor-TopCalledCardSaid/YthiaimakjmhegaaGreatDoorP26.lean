/- Parts of the proof. No statement is proved here. -/
import Derived.Test.YthiaimakjmhegaaGreatDoorP22
set_option linter.unusedVariables false
set_option linter.unusedSimpArgs false
set_option maxHeartbeats 16000000
set_option maxRecDepth 20000
namespace Go.Proofs.YthiaimakjmhegaaGreatDoor.Pl
open Go.Ab Go.Pl
attribute [local irreducible] AWP AOps EStep AQ PStep PRun PCall TCall VCall
abbrev LQ (x:Nm):List AV:=[.str x.letter,.int x.number,.int 0,.int 0,.int 0,.int 0]
def nmV:Option Nm→AV
 |none=>.tup [.agg [.str ⟨#[]⟩,.int 0,.int 0,.int 0,.int 0,.int 0],.int 0,.b false]
 |some x=>.tup [.agg (LQ x),.int x.pos,.b true]
theorem Cj (e:Ed.ah) (i:Int) (before:Bool) (k:Nat):da e i before (k+1)=if gF i before (e.letters.getD k default) then da e i before k
 else if da e i before k<0 then (k:Int)
 else if max ((e.letters.getD k default).pos - i) (i - (e.letters.getD k default).pos)<max ((e.letters.getD (da e i before k).toNat default).pos - i) (i - (e.letters.getD (da e i before k).toNat default).pos) then (k:Int)
 else da e i before k:=rfl
theorem AP (e:Ed.ah) (hw:Ed.Wf e) (hlb:∀k,k<e.letters.length→0≤(e.letters.getD k default).pos∧(e.letters.getD k default).pos≤4000) (i:Int) (hi:0≤i∧i≤4000) (before:Bool) :
 PCall Tryz.prog 131 [.iptr (Ed.aF e),.iptr [.int i],.iptr [.b before]] (nmV (mG e (da e i before e.letters.length))):=by
 have hl:=hw.letters;refine PCall.bN ab Tryz.func131 rfl rfl Tryz.ntmps131 rfl ?_
 repeat' (first|refine qT ?_|apply sqW|refine rgK fun U V=>?_|(refine aN V ?_;clear V U)|refine aA ?_|refine blK ?_)
 refine lpD (ι:=Nat) (fun k=>[(0,.iptr (Ed.aF e)),(1,.iptr [.int i]),(2,.iptr [.b before]),(3,.ptr 0 0),(6,.int (da e i before k)),(11,.sl 2 (e.letters.map Ed.dL) .no),(12,.int e.letters.length),(13,.int k)]) (fun _=>[.var [.str ⟨#[]⟩,.int 0,.int 0,.int 0,.int 0,.int 0]])
  (fun k=>k≤e.letters.length) (fun k=>e.letters.length - k) 1 (fun _=>rfl) 0 (nZl _) ⟨rfl,rfl,rfl,rfl,rfl,rfl,rfl,rfl,tI⟩ rfl (fun _ _=>rfl) (fun _ _=>rfl) ?_
 intro k hk;have hin:=su (e:=e) (i:=i) (before:=before) k hk;by_cases hlt:k<e.letters.length
 · have hst:=Cj e i before k;obtain⟨hL1,hL2⟩:=hlb k hlt;obtain⟨L,hL⟩:∃L,e.letters.getD k default=L:=⟨_,rfl⟩
   rw[hL] at hst hL1 hL2;rcases hin with h|⟨j,h,hj,_⟩
   · rw[h] at hst ⊢
     repeat' (first|refine qP ?_ (h:=fun hg=>by first|exact PRun.eq (v:=.iptr (Ed.dL (e.letters.getD ((k:Nat):Int).toNat default))) (piW ab rfl rfl nd rfl nd rfl rfl oM) (congrArg (fun x=>AV.iptr (Ed.dL x)) (show e.letters.getD ((k:Nat):Int).toNat default=L from hL))|exact aa|exact af)|apply sqW|refine rgK fun U V=>?_|(refine aN V ?_;clear V U)|refine aS ?_|refine aA ?_|refine cX ?_ ?_<;>intro hc<;>try simp only[dE] at hc|refine blK ?_|refine exW ?_|refine skW ?_|refine kD fun U V=>?_|(refine aqN (V _ ?_);clear V U)|refine aqQ rfl rfl (fun hg=>by first|exact aa|exact piW ab rfl rfl nd rfl nd rfl rfl (Bool.noConfusion (show false=true from hg))|exact af|fail) (by exact rfl) ?_)
     all_goals first|(exfalso;omega)|skip
     · have h1:gF i before L=true:=hc;refine⟨k+1,oM,oM,⟨rfl,rfl,rfl,rfl,congrArg AV.int (hst.trans (if_pos h1)).symm,rfl,rfl,rfl,tI⟩,rfl⟩
     · rename_i hc0;have h1:¬gF i before L=true:=by rw[show gF i before L=false from hc0];decide
       refine⟨k+1,oM,oM,⟨rfl,rfl,rfl,rfl,congrArg AV.int (hst.trans ((if_neg h1).trans (if_pos dCd))).symm,rfl,rfl,rfl,tI⟩,rfl⟩
     · exfalso;simp at hc
   · rw[h] at hst ⊢;obtain⟨hB1,hB2⟩:=hlb j oM;obtain⟨B,hB⟩:∃B,e.letters.getD j default=B:=⟨_,rfl⟩
     rw[zAe,hB] at hst;rw[hB] at hB1 hB2
     repeat' (first|refine qP ?_ (h:=fun hg=>by first|exact PRun.eq (v:=.iptr (Ed.dL (e.letters.getD ((k:Nat):Int).toNat default))) (piW ab rfl rfl nd rfl nd rfl rfl oM) (congrArg (fun x=>AV.iptr (Ed.dL x)) (show e.letters.getD ((k:Nat):Int).toNat default=L from hL))|exact aa|exact af)|apply sqW|refine rgK fun U V=>?_|(refine aN V ?_;clear V U)|refine aS ?_|refine aA ?_|refine cX ?_ ?_<;>intro hc<;>try simp only[dE] at hc|refine blK ?_|refine exW ?_|refine skW ?_|refine kD fun U V=>?_|(refine aqN (V _ ?_);clear V U)|refine aqQ rfl rfl (fun hg=>by first|exact PRun.eq (v:=.iptr (Ed.dL (e.letters.getD ((j:Nat):Int).toNat default))) (piW ab rfl rfl nd rfl nd rfl rfl oM) (congrArg (fun x=>AV.iptr (Ed.dL x)) (show e.letters.getD ((j:Nat):Int).toNat default=B from hB))|exact aa|exact af) (by exact rfl) ?_)
     all_goals first|(exfalso;omega)|skip
     · have h1:gF i before L=true:=hc;refine⟨k+1,oM,oM,⟨rfl,rfl,rfl,rfl,congrArg AV.int (hst.trans (if_pos h1)).symm,rfl,rfl,rfl,tI⟩,rfl⟩
     · rename_i hc0;have h1:¬gF i before L=true:=by rw[show gF i before L=false from hc0];decide
       have h2:¬((j:Nat):Int)<0:=oM;have h3:max (L.pos - i) (i - L.pos)<max (B.pos - i) (i - B.pos):=by
        rw[decide_eq_false h2,zCx,zA0,dEt,dEt] at hc;exact hc.2
       refine⟨k+1,oM,oM,⟨rfl,rfl,rfl,rfl,congrArg AV.int (hst.trans ((if_neg h1).trans ((if_neg h2).trans (if_pos h3)))).symm,rfl,rfl,rfl,tI⟩,rfl⟩
     · rename_i hc0;have h1:¬gF i before L=true:=by rw[show gF i before L=false from hc0];decide
       have h2:¬((j:Nat):Int)<0:=oM;have h3:¬max (L.pos - i) (i - L.pos)<max (B.pos - i) (i - B.pos):=by
        rw[decide_eq_false h2,zCx,decide_eq_true (show((j:Nat):Int)≥0 by omega),zAy,dEf] at hc;exact hc
       refine⟨k+1,oM,oM,⟨rfl,rfl,rfl,rfl,congrArg AV.int (hst.trans ((if_neg h1).trans ((if_neg h2).trans (if_neg h3)))).symm,rfl,rfl,rfl,tI⟩,rfl⟩
 · have hkl:k=e.letters.length:=oM;subst hkl;rcases hin with h|⟨j,h,hj,_⟩
   · rw[h]
     repeat' (first|refine qP ?_ (h:=fun hg=>by first|exact aa|exact pbD ab rfl rfl nds|exact af)|apply sqW|refine rgK fun U V=>?_|(refine aN V ?_;clear V U)|refine aS ?_|refine aA ?_|refine cX ?_ ?_<;>intro hc<;>try simp only[dE] at hc|refine blK ?_|refine exW ?_|refine skW ?_|refine rtW ?_|refine kD fun U V=>?_|(refine aqN (V _ ?_);clear V U)|refine aqQ rfl rfl (fun hg=>by first|exact aa|exact af) (by exact rfl) ?_)
     all_goals first|(exfalso;omega)|skip
     exact⟨.inr rfl,_,rfl,Ent.of rfl⟩
   · rw[h];obtain⟨B,hB⟩:∃B,e.letters.getD j default=B:=⟨_,rfl⟩
     repeat' (first|refine qT ?_|apply sqW|refine rgK fun U V=>?_|(refine aN V ?_;clear V U)|refine aS ?_|refine aA ?_|refine cX ?_ ?_<;>intro hc<;>try simp only[dE] at hc|refine blK ?_|refine exW ?_|refine skW ?_|refine kD fun U V=>?_|(refine aqN (V _ ?_);clear V U)|refine aqQ rfl rfl (fun hg=>by first|exact aa|exact af) (by exact rfl) ?_)
     all_goals first|(exfalso;omega)|skip
     refine AWP.dZ (fun j=>match j with|0=>[.var [.str ⟨#[]⟩,.int 0,.int 0,.int 0,.int 0,.int 0]]|_=>[.var [.str B.name,.int 0,.int 0,.int 0,.int 0,.int 0]]) rfl (by kernel_rfl) dKn rfl dKn (fun U V=>?_)
     repeat' (first
      |refine yt (h:=by refine⟨?_,?_,?_,?_⟩<;>intro hh hg<;>first|exact absurd hh dKn|exact PRun.eq (v:=.iptr (Ed.dL (e.letters.getD ((j:Nat):Int).toNat default))) (piW ab rfl rfl nd rfl nd rfl rfl oM) (congrArg (fun x=>AV.iptr (Ed.dL x)) (show e.letters.getD ((j:Nat):Int).toNat default=B from hB))|exact aa|exact pbD ab rfl rfl nds|exact af|fail) (hk:=?_)|fail)
     refine YQ.e (v:=.any) (d:=none) rfl rfl rfl ?_ ?_
     · intro aw he;exact stW ab rfl rfl ((ai (he 3 dKn)).trans rfl) (by rw[aj (he 3 dKn)];first|exact tI|exact rfl) rfl ((ai (he 83 dKn)).trans rfl) (by rw[aj (he 83 dKn)];first|exact tI|exact rfl) rfl rfl rfl rfl rfl rfl rfl ⟨rfl,rfl⟩
     repeat' (first
      |refine yt (h:=by refine⟨?_,?_,?_,?_⟩<;>intro hh hg<;>first|exact absurd hh dKn|exact PRun.eq (v:=.iptr (Ed.dL (e.letters.getD ((j:Nat):Int).toNat default))) (piW ab rfl rfl nd rfl nd rfl rfl oM) (congrArg (fun x=>AV.iptr (Ed.dL x)) (show e.letters.getD ((j:Nat):Int).toNat default=B from hB))|exact aa|exact pbD ab rfl rfl nds|exact af|fail) (hk:=?_)|fail)
     refine YQ.nil (V _ _ ?_);clear V U
     repeat' (first|refine rtW ?_)
     refine⟨.inr rfl,_,rfl,Ent.of ?_⟩;have h2:¬((j:Nat):Int)<0:=oM;unfold mG;rw[if_neg h2,zAe,hB];rfl
theorem zV (e:Ed.ah) (n:Nat) (k:Int):goDown e (n+1) k=if k<0 then -1 else if fh e k then k else goDown e n (k - 1):=rfl
theorem EM (e:Ed.ah) (n:Nat) (k:Int):goUp e (n+1) k=if (e.bars.length:Int)≤k then -1 else if fh e k then k else goUp e n (k+1):=rfl
def fi (l:List Ed.cN):List (Int×Int):=dN (l.map fun p=>p.number)
theorem wI (l:List Ed.cN) (n:Int):(lk (fi l) n).getD 0=(l.countP (Ed.il n):Int):=by
 unfold fi;rw[yk,List.count_eq_countP,List.countP_map];rfl
theorem Jj (e:Ed.ah) (hw:Ed.Wf e) (hb4:e.bars.length≤4000) (i:Int) (hi:0≤i∧i<(e.bars.length:Int)) :
 PCall Tryz.prog 133 [.iptr [.int i],.iptr [.int (-1)],.iptr (Ed.aF e),.iptr [.imap (aT ekI AV.int (fi e.bars))]] (nmV (kJ e (goDown e 1001 i))):=by
 generalize hG:goDown e 1001 i=G;refine PCall.bN ab Tryz.func133 rfl rfl Tryz.ntmps133 rfl ?_
 repeat' (first|refine qS ?_|apply sqW|refine rgK fun U V=>?_|(refine aN V ?_;clear V U)|refine aA ?_|refine cX ?_ ?_<;>intro hc<;>try simp only[dE] at hc|refine blK ?_|refine skW ?_)
 all_goals first|(exfalso;omega)|skip
 refine lpD (ι:=Nat×Int) (fun q=>[(0,.iptr [.int i]),(1,.iptr [.int (-1)]),(2,.iptr (Ed.aF e)),(3,.iptr [.imap (aT ekI AV.int (fi e.bars))]),(4,.ptr 0 0),(7,.int q.2)]) (fun _=>[.var [.str ⟨#[]⟩,.int 0,.int 0,.int 0,.int 0,.int 0]])
  (fun q=>(-1≤q.2∧q.2≤i∧i - q.2+q.1=1001)∧G=goDown e q.1 q.2) (fun q=>q.1) 1 (fun _=>rfl) (1001,i) ⟨⟨by dsimp only;omega,zBy _,by dsimp only;omega⟩,hG.symm⟩ ⟨rfl,rfl,rfl,rfl,rfl,rfl,tI⟩ rfl (fun _ _=>rfl) (fun _ _=>rfl) ?_
 clear hG;rintro⟨n,k⟩ ⟨⟨hk1,hk2,hk3⟩,hg0⟩;dsimp only at hk1 hk2 hk3 hg0 ⊢;cases n with
 | zero =>
   have hg1:G = -1:=hg0;subst hg1
   repeat' (first|refine qP ?_ (h:=fun hg=>by first|exact aa|exact pbD ab rfl rfl nds|exact af)|apply sqW|refine rgK fun U V=>?_|(refine aN V ?_;clear V U)|refine aS ?_|refine cX ?_ ?_<;>intro hc<;>try simp only[dE] at hc|refine blK ?_|refine exW ?_|refine skW ?_|refine rtW ?_|refine kD fun U V=>?_|refine aqQ rfl rfl (fun hg=>by exact aa) (by exact rfl) ?_)
   · exfalso;simp at hc;omega
   · exact⟨.inr rfl,_,rfl,Ent.of rfl⟩
 | succ n =>
   rw[zV] at hg0;by_cases hk:k<0
   · rw[if_pos hk] at hg0;subst hg0
     repeat' (first|refine qP ?_ (h:=fun hg=>by first|exact aa|exact pbD ab rfl rfl nds|exact af)|apply sqW|refine rgK fun U V=>?_|(refine aN V ?_;clear V U)|refine aS ?_|refine cX ?_ ?_<;>intro hc<;>try simp only[dE] at hc|refine blK ?_|refine exW ?_|refine skW ?_|refine rtW ?_|refine kD fun U V=>?_|refine aqQ rfl rfl (fun hg=>by exact aa) (by exact rfl) ?_)
     · exfalso;simp at hc;omega
     · exact⟨.inr rfl,_,rfl,Ent.of rfl⟩
   · rw[if_neg hk] at hg0;obtain⟨j,rfl⟩:∃j:Nat,k=j:=⟨k.toNat,oM⟩
     have hjl:j<e.bars.length:=oM;obtain⟨B,hB⟩:∃B,e.bars.getD j default=B:=⟨_,rfl⟩
     have hon:fh e j=((lk (fi e.bars) B.number).getD 0==1):=by
      unfold fh tA;rw[zAe,hB,wI,zAi];simp;omega
     rw[hon] at hg0
     repeat' (first|refine qP ?_ (h:=fun hg=>by first|exact PRun.eq (v:=.iptr (Ed.bz (e.bars.getD ((j:Nat):Int).toNat default))) (piW ab rfl rfl nd rfl nd rfl rfl oM) (congrArg (fun x=>AV.iptr (Ed.bz x)) (show e.bars.getD ((j:Nat):Int).toNat default=B from hB))|exact aa|exact pbD ab rfl rfl nds|exact af)|apply sqW|refine rgK fun U V=>?_|(refine aN V ?_;clear V U)|refine aS ?_|refine cX ?_ ?_<;>intro hc<;>try simp only[dE] at hc|refine blK ?_|refine exW ?_|refine skW ?_|refine rtW ?_|refine kD fun U V=>?_|(refine aqN (V _ ?_);clear V U)|refine aqQ rfl rfl (fun hg=>by first|exact PRun.eq (v:=.iptr (Ed.bz (e.bars.getD ((j:Nat):Int).toNat default))) (piW ab rfl rfl nd rfl nd rfl rfl oM) (congrArg (fun x=>AV.iptr (Ed.bz x)) (show e.bars.getD ((j:Nat):Int).toNat default=B from hB))|exact aa|exact PRun.lookup (ek:=ekI) (ev:=AV.int) (zv:=0) (aL (lkG rfl)) (lkG rfl) (lkG rfl) rfl rfl (Rd.w rfl nd) (Or.inl rfl) (Rd.w rfl nd) rfl|exact af) (by exact rfl) ?_)
     · rw[if_pos hc] at hg0;subst hg0;have h2:¬((j:Nat):Int)<0:=oM;refine⟨.inr rfl,_,rfl,Ent.of ?_⟩;unfold kJ;rw[if_neg h2,zAe,hB];rfl
     · rw[if_neg (by rw[hc];decide)] at hg0;exact⟨(n,(j:Int)+(-1)),⟨⟨by dsimp only;omega,by dsimp only;omega,by dsimp only;omega⟩,by show G=goDown e n ((j:Int)+(-1));rw[show(j:Int)+(-1)=j - 1 by omega];exact hg0⟩,Nat.lt_succ_self _,⟨rfl,rfl,rfl,rfl,rfl,rfl,tI⟩,rfl⟩
     · exfalso;simp at hc;omega
theorem LR (e:Ed.ah) (hw:Ed.Wf e) (hb4:e.bars.length≤4000) (i:Int) (hi:0≤i∧i<(e.bars.length:Int)) :
 PCall Tryz.prog 133 [.iptr [.int i],.iptr [.int 1],.iptr (Ed.aF e),.iptr [.imap (aT ekI AV.int (fi e.bars))]] (nmV (kJ e (goUp e 1000 (i+1)))):=by
 generalize hG:goUp e 1000 (i+1)=G;refine PCall.bN ab Tryz.func133 rfl rfl Tryz.ntmps133 rfl ?_
 repeat' (first|refine qS ?_|apply sqW|refine rgK fun U V=>?_|(refine aN V ?_;clear V U)|refine aA ?_|refine cX ?_ ?_<;>intro hc<;>try simp only[dE] at hc|refine blK ?_|refine skW ?_)
 all_goals first|(exfalso;omega)|skip
 refine lpD (ι:=Nat×Int) (fun q=>[(0,.iptr [.int i]),(1,.iptr [.int (1)]),(2,.iptr (Ed.aF e)),(3,.iptr [.imap (aT ekI AV.int (fi e.bars))]),(4,.ptr 0 0),(7,.int q.2)]) (fun _=>[.var [.str ⟨#[]⟩,.int 0,.int 0,.int 0,.int 0,.int 0]])
  (fun q=>(i+1≤q.2∧q.2 - i+q.1=1001)∧G=goUp e q.1 q.2) (fun q=>q.1) 1 (fun _=>rfl) (1000,i+1) ⟨⟨zBy _,by dsimp only;omega⟩,hG.symm⟩ ⟨rfl,rfl,rfl,rfl,rfl,rfl,tI⟩ rfl (fun _ _=>rfl) (fun _ _=>rfl) ?_
 clear hG;rintro⟨n,k⟩ ⟨⟨hk1,hk3⟩,hg0⟩;dsimp only at hk1 hk3 hg0 ⊢;cases n with
 | zero =>
   have hg1:G = -1:=hg0;subst hg1
   repeat' (first|refine qP ?_ (h:=fun hg=>by first|exact aa|exact pbD ab rfl rfl nds|exact af)|apply sqW|refine rgK fun U V=>?_|(refine aN V ?_;clear V U)|refine aS ?_|refine cX ?_ ?_<;>intro hc<;>try simp only[dE] at hc|refine blK ?_|refine exW ?_|refine skW ?_|refine rtW ?_|refine kD fun U V=>?_|refine aqQ rfl rfl (fun hg=>by exact aa) (by exact rfl) ?_)
   · exfalso;simp at hc;omega
   · exact⟨.inr rfl,_,rfl,Ent.of rfl⟩
 | succ n =>
   rw[EM] at hg0;by_cases hk:(e.bars.length:Int)≤k
   · rw[if_pos hk] at hg0;subst hg0
     repeat' (first|refine qP ?_ (h:=fun hg=>by first|exact aa|exact pbD ab rfl rfl nds|exact af)|apply sqW|refine rgK fun U V=>?_|(refine aN V ?_;clear V U)|refine aS ?_|refine cX ?_ ?_<;>intro hc<;>try simp only[dE] at hc|refine blK ?_|refine exW ?_|refine skW ?_|refine rtW ?_|refine kD fun U V=>?_|refine aqQ rfl rfl (fun hg=>by exact aa) (by exact rfl) ?_)
     · exfalso;simp at hc;omega
     · exact⟨.inr rfl,_,rfl,Ent.of rfl⟩
   · rw[if_neg hk] at hg0;obtain⟨j,rfl⟩:∃j:Nat,k=j:=⟨k.toNat,oM⟩
     have hjl:j<e.bars.length:=oM;obtain⟨B,hB⟩:∃B,e.bars.getD j default=B:=⟨_,rfl⟩
     have hon:fh e j=((lk (fi e.bars) B.number).getD 0==1):=by
      unfold fh tA;rw[zAe,hB,wI,zAi];simp;omega
     rw[hon] at hg0
     repeat' (first|refine qP ?_ (h:=fun hg=>by first|exact PRun.eq (v:=.iptr (Ed.bz (e.bars.getD ((j:Nat):Int).toNat default))) (piW ab rfl rfl nd rfl nd rfl rfl oM) (congrArg (fun x=>AV.iptr (Ed.bz x)) (show e.bars.getD ((j:Nat):Int).toNat default=B from hB))|exact aa|exact pbD ab rfl rfl nds|exact af)|apply sqW|refine rgK fun U V=>?_|(refine aN V ?_;clear V U)|refine aS ?_|refine cX ?_ ?_<;>intro hc<;>try simp only[dE] at hc|refine blK ?_|refine exW ?_|refine skW ?_|refine rtW ?_|refine kD fun U V=>?_|(refine aqN (V _ ?_);clear V U)|refine aqQ rfl rfl (fun hg=>by first|exact PRun.eq (v:=.iptr (Ed.bz (e.bars.getD ((j:Nat):Int).toNat default))) (piW ab rfl rfl nd rfl nd rfl rfl oM) (congrArg (fun x=>AV.iptr (Ed.bz x)) (show e.bars.getD ((j:Nat):Int).toNat default=B from hB))|exact aa|exact PRun.lookup (ek:=ekI) (ev:=AV.int) (zv:=0) (aL (lkG rfl)) (lkG rfl) (lkG rfl) rfl rfl (Rd.w rfl nd) (Or.inl rfl) (Rd.w rfl nd) rfl|exact af) (by exact rfl) ?_)
     · rw[if_pos hc] at hg0;subst hg0;have h2:¬((j:Nat):Int)<0:=oM;refine⟨.inr rfl,_,rfl,Ent.of ?_⟩;unfold kJ;rw[if_neg h2,zAe,hB];rfl
     · rw[if_neg (by rw[hc];decide)] at hg0;exact⟨(n,(j:Int)+1),⟨⟨by dsimp only;omega,by dsimp only;omega⟩,hg0⟩,Nat.lt_succ_self _,⟨rfl,rfl,rfl,rfl,rfl,rfl,tI⟩,rfl⟩
     · exfalso;simp at hc;omega
theorem EN (e:Ed.ah) (i:Int) (b:Bool):PCall Tryz.prog 130 [.b b,.iptr (Ed.aF e),.iptr [.int i]] (.fn (.func 131) [] [.iptr (Ed.aF e),.iptr [.int i],.iptr [.b b]]):=by
 refine PCall.body Tryz.func130 rfl rfl Tryz.ntmps130 rfl rfl ?_
 repeat' (first|refine qS ?_|apply sqW|refine rgK fun U V=>?_|(refine aN V ?_;clear V U)|refine aB ?_)
 refine AWP.bj 0 rfl rfl ?_;exact rtW ⟨.inr rfl,fun _ _ h=>h⟩
theorem EO (e:Ed.ah) (i st:Int) (al:List (Value×AV)):PCall Tryz.prog 132 [.int st,.iptr [.int i],.iptr (Ed.aF e),.iptr [.imap al]] (.fn (.func 133) [] [.iptr [.int i],.iptr [.int st],.iptr (Ed.aF e),.iptr [.imap al]]):=by
 refine PCall.body Tryz.func132 rfl rfl Tryz.ntmps132 rfl rfl ?_
 repeat' (first|refine qS ?_|apply sqW|refine rgK fun U V=>?_|(refine aN V ?_;clear V U)|refine aB ?_)
 refine AWP.bj 0 rfl rfl ?_;exact rtW ⟨.inr rfl,fun _ _ h=>h⟩
structure Fin where
 k:FuncId
 aQ:List (List AV)
 res:Option Nm
instance:Inhabited Fin:=⟨⟨0,[],none⟩⟩
def mH (c:Fin):List AV:=[.fn (.func c.k) [] (c.aQ.map AV.iptr)]
def qn (e:Ed.ah) (i:Int):List Fin:=[
 ⟨131,[Ed.aF e,[.int i],[.b true]],mG e (da e i true e.letters.length)⟩,
 ⟨133,[[.int i],[.int (-1)],Ed.aF e,[.imap (aT ekI AV.int (fi e.bars))]],kJ e (goDown e 1001 i)⟩,
 ⟨131,[Ed.aF e,[.int i],[.b false]],mG e (da e i false e.letters.length)⟩,
 ⟨133,[[.int i],[.int 1],Ed.aF e,[.imap (aT ekI AV.int (fi e.bars))]],kJ e (goUp e 1000 (i+1))⟩]
theorem EP {e:Ed.ah} {k:Nat} (h:k<e.bars.length):fi (e.bars.take (k+1))=ins (fi (e.bars.take k)) (e.bars.getD k default).number ((lk (fi (e.bars.take k)) (e.bars.getD k default).number).getD 0+1):=by
 unfold fi;rw[zC8,zA1 h,zBw,fO h];exact oO _ _
theorem yK (e:Ed.ah) (hw:Ed.Wf e) (hb4:e.bars.length≤4000) (i:Int) :
 PCall Tryz.prog 63 [.agg (Ed.aF e),.int i] (.sl 1 ((qn e i).map mH) .no):=by
 have hq1:=fun b=>TCall.val (first:=[]) (avs:=[.b b]) (aQ:=[.iptr (Ed.aF e),.iptr [.int i]]) (PCall.lf (σ:=[.dead,.dead,.dead,.dead]) (EN e i b) (fun v hv=>by
  rcases zAo.1 hv with rfl|hv
  · rfl
  rcases zAo.1 hv with rfl|hv
  · rfl
  rw[zA9.1 hv];rfl))
 have hq2:=fun st=>TCall.val (first:=[]) (avs:=[.int st]) (aQ:=[.iptr [.int i],.iptr (Ed.aF e),.iptr [.imap (aT ekI AV.int (fi e.bars))]]) (PCall.lf (σ:=[.dead,.dead,.dead,.dead]) (EO e i st (aT ekI AV.int (fi e.bars))) (fun v hv=>by
  rcases zAo.1 hv with rfl|hv
  · rfl
  rcases zAo.1 hv with rfl|hv
  · rfl
  rcases zAo.1 hv with rfl|hv
  · rfl
  rw[zA9.1 hv];rfl))
 refine PCall.body Tryz.func63 rfl rfl Tryz.ntmps63 rfl rfl ?_
 repeat' (first|refine qT ?_|apply sqW|refine rgK fun U V=>?_|(refine aN V ?_;clear V U)|refine aB ?_|refine aS ?_|refine aA ?_|refine aoE (EStep.dn rfl rfl rfl rfl ?_)|refine blK ?_)
 refine lpD (ι:=Nat) (fun k=>[(2,.ptr 0 0),(3,.ptr 1 0),(5,.ptr 3 0),(12,.sl 3 (e.bars.map Ed.bz) .no),(13,.int e.bars.length),(14,.int k)]) (fun k=>[.var (Ed.aF e),.var [.int i],.map (aT ekI AV.int (fi (e.bars.take k))),.var [.map 2]])
  (fun k=>k≤e.bars.length) (fun k=>e.bars.length - k) 4 (fun _=>rfl) 0 (nZl _) ⟨rfl,rfl,rfl,rfl,rfl,rfl,tI⟩ rfl (fun _ _=>rfl) (fun k _=>by simp[aD,aT,aO,Ed.aF]) ?_
 intro k hk;by_cases hlt:k<e.bars.length
 · obtain⟨B,hB⟩:∃B,e.bars.getD k default=B:=⟨_,rfl⟩
   have hst:=EP hlt;have hcnt:(lk (fi (e.bars.take k)) B.number).getD 0≤4000:=by
    rw[wI];have:=List.countP_le_length (p:=Ed.il B.number) (l:=e.bars.take k);rw[zAn] at this;omega
   have hcnt0:0≤(lk (fi (e.bars.take k)) B.number).getD 0:=by rw[wI];omega
   rw[hB] at hst
   repeat' (first|refine qP ?_ (h:=fun hg=>by first|exact PRun.eq (v:=.iptr (Ed.bz (e.bars.getD ((k:Nat):Int).toNat default))) (piW ab rfl rfl nd rfl nd rfl rfl oM) (congrArg (fun x=>AV.iptr (Ed.bz x)) (show e.bars.getD ((k:Nat):Int).toNat default=B from hB))|exact aa|exact PRun.lookup (ek:=ekI) (ev:=AV.int) (zv:=0) (aL (lkG rfl)) (lkG rfl) (lkG rfl) rfl rfl (Rd.w rfl nd) (Or.inr ⟨_,rfl,rfl⟩) (Rd.w rfl nd) rfl|exact af)|apply sqW|refine rgK fun U V=>?_|(refine aN V ?_;clear V U)|refine aS ?_|refine aA ?_|refine aoE (EStep.fu (ek:=ekI) (ev:=AV.int) (v:=(lk (fi (e.bars.take k)) B.number).getD 0+1) (aL (lkG rfl)) (lkG rfl) rfl rfl rfl (Rd.w rfl tI) rfl (Rd.w rfl tI) rfl (Rd.w rfl tI) ?_)|refine cX ?_ ?_<;>intro hc<;>try simp only[dE] at hc|refine blK ?_|refine exW ?_|refine skW ?_)
   all_goals first|(exfalso;omega)|skip
   refine⟨k+1,oM,oM,⟨rfl,rfl,rfl,rfl,rfl,rfl,tI⟩,?_⟩;rw[hst];rfl
 · have hkl:e.bars.take k=e.bars:=zAh oM;rw[hkl];refine AWP.lj (ek:=ekI) (ev:=AV.int) (l:=2) (al:=fi e.bars) rfl (nX fun _=>rfl) ?_;refine AWP.bj 0 rfl rfl ?_;refine AWP.bj 1 rfl rfl ?_;refine AWP.bj 3 rfl rfl ?_;refine AWP.cY [(2,.iptr (Ed.aF e)),(3,.iptr [.int i]),(5,.iptr [.imap (aT ekI AV.int (fi e.bars))]),(12,.sl 3 (e.bars.map Ed.bz) .no),(13,.int e.bars.length),(14,.int k)] ⟨rfl,rfl,rfl,rfl,rfl,rfl,tI⟩ ?_
   repeat' (first|refine qP ?_ (h:=fun hg=>by first|exact aa|exact PRun.kA (hq1 _) rfl rfl nd rfl rfl nds|exact PRun.kA (hq2 _) rfl rfl nd rfl rfl nds|exact pbD ab rfl rfl nds|exact pbS ab rfl rfl nds|exact af)|apply sqW|refine rgK fun U V=>?_|(refine aN V ?_;clear V U)|refine aS ?_|refine aA ?_|refine cX ?_ ?_<;>intro hc<;>try simp only[dE] at hc|refine blK ?_|refine exW ?_|refine skW ?_|refine rtW ?_)
   all_goals first|(exfalso;omega)|skip
   exact⟨.inr rfl,Ent.of rfl⟩
theorem HY:∀(l:List Fin) (k:Nat),k<l.length→(l.getD k default).res.isSome=true→(∀j,j<k→(l.getD j default).res.isSome=false)→(l.map fun x=>x.res).findSome? id=(l.getD k default).res
 |[],k,h,_,_=>absurd h (Nat.not_lt_zero _)
 | a :: l, 0, _, h, _ => by
   obtain⟨x,hx⟩:=Option.isSome_iff_exists.1 h;have hx:a.res=some x:=hx;show(a.res::_).findSome? id=a.res;rw[List.findSome?_cons,hx];rfl
 | a :: l, k + 1, hk, h, hj => by
   have h0:a.res=none:=by simpa using hj 0 (zBz _)
   show(a.res::_).findSome? id=(l.getD k default).res;rw[List.findSome?_cons,h0];exact HY l k (by simpa using hk) h fun j hj'=>hj (j+1) oM
theorem HZ:∀(l:List Fin),(∀j,j<l.length→(l.getD j default).res.isSome=false)→(l.map fun x=>x.res).findSome? id=none
 |[],_=>rfl
 | a :: l, hj => by
   have h0:a.res=none:=by simpa using hj 0 (zBz _)
   show(a.res::_).findSome? id=none;rw[List.findSome?_cons,h0];exact HZ l fun j hj'=>hj (j+1) (by simpa using hj')
theorem Jk (e:Ed.ah) (i:Int):sr e i=((qn e i).map fun x=>x.res).findSome? id:=rfl
theorem AR {e:Ed.ah} (hf:Ed.bE e=true) {i:Int} {b:Bool} {x:Nm} (h:mG e (da e i b e.letters.length)=some x):yu e i x:=by
 rcases su (e:=e) (i:=i) (before:=b) e.letters.length (nLr _) with h1|⟨j,h1,h2,h3⟩
 · rw[h1] at h;cases h
 · rw[h1] at h;unfold mG at h;rw[if_neg oM,zAe] at h;cases h;have hl:=oT hf h2;unfold Ed.kF inB at hl;simp only[zA0,dEt] at hl;unfold gF at h3;simp only[zAg,dEf] at h3;exact⟨⟨hl.1.2.1,by show(e.letters.getD j default).pos<_;omega⟩,⟨by show i - (e.letters.getD j default).pos≤1000;omega,by show(e.letters.getD j default).pos - i≤1000;omega⟩,.inl ⟨j,h2,rfl,rfl,rfl⟩⟩
theorem AU {e:Ed.ah} {i k:Int} {x:Nm} (h:kJ e k=some x) (hk:k = -1∨(0≤k∧k<(e.bars.length:Int)∧fh e k=true∧i - k≤1000∧k - i≤1000)):yu e i x:=by
 rcases hk with rfl|⟨h1,h2,h3,h4,h5⟩
 · cases h
 · unfold kJ at h;rw[if_neg oM] at h;cases h;exact⟨⟨h1,h2⟩,⟨h4,h5⟩,.inr ⟨rfl,rfl,h3⟩⟩
theorem AW {e:Ed.ah} (hf:Ed.bE e=true) {i:Int} (hi:0≤i∧i<(e.bars.length:Int)) {x:Nm} (h:some x∈Ca e i):yu e i x:=by
 unfold Ca at h;simp only[zAo,zCe,or_false] at h;rcases h with h|h|h|h
 · exact AR hf h.symm
 · refine AU h.symm ?_;rcases vF (e:=e) 1001 i hi.2 with h1|⟨h1,h2,h3,h4,h5⟩
   · exact .inl h1
   · exact .inr ⟨h1,h2,h3,oM,oM⟩
 · exact AR hf h.symm
 · refine AU h.symm ?_;rcases AN (e:=e) 1000 (i+1) oM with h1|⟨h1,h2,h3,h4,h5⟩
   · exact .inl h1
   · exact .inr ⟨h1,h2,h3,oM,oM⟩
theorem H0 (c:List (List AV)):∀v∈c.map AV.iptr,unb 4 v=v:=fun v hv=>by
 obtain⟨cs,_,rfl⟩:=zAq.1 hv;rfl
theorem ER (c:Fin) (h:PCall Tryz.prog c.k (c.aQ.map AV.iptr) (nmV c.res)):PCall Tryz.prog 65 [.agg (mH c)] (.b c.res.isSome):=by
 have hq:=TCall.val (first:=[]) (avs:=[]) (PCall.lf (σ:=[.var (mH c)]) h (H0 c.aQ));cases hr:c.res with
 | none =>
   rw[hr] at hq;unfold nmV at hq;refine PCall.body Tryz.func65 rfl rfl Tryz.ntmps65 rfl rfl ?_
   repeat' (first|refine qP ?_ (h:=fun hg=>by first|exact aa|exact PRun.kA (hq) rfl rfl nd rfl rfl nds|exact af)|apply sqW|refine rgK fun U V=>?_|(refine aN V ?_;clear V U)|refine aB ?_|refine aS ?_|refine aA ?_|refine rtW ?_)
   exact⟨.inr rfl,Ent.b rfl⟩
 | some x =>
   rw[hr] at hq;unfold nmV at hq;refine PCall.body Tryz.func65 rfl rfl Tryz.ntmps65 rfl rfl ?_
   repeat' (first|refine qP ?_ (h:=fun hg=>by first|exact aa|exact PRun.kA (hq) rfl rfl nd rfl rfl nds|exact af)|apply sqW|refine rgK fun U V=>?_|(refine aN V ?_;clear V U)|refine aB ?_|refine aS ?_|refine aA ?_|refine rtW ?_)
   exact⟨.inr rfl,Ent.b rfl⟩
theorem Ck (l:List Fin) (h:∀k,k<l.length→PCall Tryz.prog (l.getD k default).k ((l.getD k default).aQ.map AV.iptr) (nmV (l.getD k default).res)) (hl:l.length≤1000000000) :
 PCall Tryz.prog 64 [.sl 1 (l.map mH) .no,.fn (.func 65) [] []] (.int (az (fun x=>x.res.isSome) l)):=by
 refine PCall.di [1] Tryz.func64 rfl rfl Tryz.ntmps64 rfl rfl ?_
 repeat' (first|refine qT ?_|apply sqW|refine rgK fun U V=>?_|(refine aN V ?_;clear V U)|refine blK ?_)
 refine lpW (ι:=Nat) (fun k=>[(0,.sl 1 (l.map mH) .no),(1,.ext (.fn (.func 65) [] [])),(6,.sl 1 (l.map mH) .no),(7,.int l.length),(8,.int k)]) (fun _=>[]) (fun k=>k≤l.length∧∀j,j<k→(l.getD j default).res.isSome=false) (fun k=>l.length - k) 0 ⟨nZl _,fun j h=>absurd h oM⟩ ⟨rfl,rfl,rfl,rfl,rfl,tI⟩ rfl ?_;rintro k ⟨hk,au⟩;by_cases hlt:k<l.length
 · have hv:bF Tryz.prog (.fn (.func 65) [] []) [.agg (mH (l.getD k default))] (.b (l.getD k default).res.isSome):=⟨_,[],[],rfl,ER _ (h k hlt)⟩;have hv':bF Tryz.prog (.fn (.func 65) [] []) [.agg [.fn (.func (l.getD k default).k) [] (((l.getD k default).aQ.map AV.iptr).map (unb 2))]] (.b (l.getD k default).res.isSome):=by
    rw[show((l.getD k default).aQ.map AV.iptr).map (unb 2)=(l.getD k default).aQ.map AV.iptr by rw[zD9];rfl];exact hv
   repeat' (first|refine qP ?_ (h:=fun hg=>by first|exact aa|exact PRun.fx (hv') rfl rfl nd rfl nds|exact af)|apply sqW|refine rgK fun U V=>?_|(refine aN V ?_;clear V U)|refine cX ?_ ?_<;>intro hc<;>try simp only[dE] at hc|refine blK ?_|refine exW ?_|refine skW ?_|refine rtW ?_)
   all_goals first|(exfalso;omega)|skip
   · refine⟨.inr rfl,?_⟩;rw[show az (fun x:Fin=>x.res.isSome) l=k from bP hlt hc au];exact fun _ _ h=>h
   · exact⟨k+1,⟨oM,fun j hj=>aH au hc hj⟩,oM,⟨rfl,rfl,rfl,rfl,rfl,tI⟩,rfl⟩
 · repeat' (first|refine qT ?_|apply sqW|refine rgK fun U V=>?_|(refine aN V ?_;clear V U)|refine cX ?_ ?_<;>intro hc<;>try simp only[dE] at hc|refine blK ?_|refine exW ?_|refine skW ?_|refine rtW ?_)
   all_goals first|(exfalso;omega)|skip
   refine⟨.inr rfl,?_⟩;rw[show az (fun x:Fin=>x.res.isSome) l = -1 from bX fun j hj=>au j oM];exact fun _ _ h=>h
theorem ES (n hi:Int):PCall Tryz.prog 53 [.int n,.int hi] (.b (inB n 1 hi)):=by
 refine PCall.body Tryz.func53 rfl rfl Tryz.ntmps53 rfl rfl ?_
 repeat' (first|refine qS ?_|apply sqW|refine rgK fun U V=>?_|(refine aN V ?_;clear V U)|refine rtW ?_)
 exact⟨.inr rfl,Ent.b rfl⟩
theorem ET (s:Score) (hs:s.Small) (e:Ed.ah) (hw:Ed.Wf e) (r:Room) (hf:FIn r.form):PCall Tryz.prog 55 ([bg s,Ed.aF e,bt r].map AV.iptr) (.prim (db (if bW s e r then 0 else 1))):=by
 have h1:=lA s hs e hw r hf;refine PCall.body Tryz.func55 rfl rfl Tryz.ntmps55 rfl rfl ?_
 repeat' (first|refine qP ?_ (h:=fun hg=>by first|exact aa|exact pc h1|exact af)|apply sqW|refine rgK fun U V=>?_|(refine aN V ?_;clear V U)|refine rtW ?_)
 exact⟨.inr rfl,fun _ _ h=>h⟩
theorem EU (m:Mom):PCall Tryz.prog 57 ([bA m,[.fn (.func 53) [] []]].map AV.iptr) (.prim (db (if gY m then 0 else 1))):=by
 have v:=fN m.pos;have hd:dj m.pos=true→m.pos.d≠0:=fun h=>by have:=cL.1 h;omega
 have h4:=gu (gY m) 1 dCd;have hq:=fun n hi=>TCall.val (first:=[]) (avs:=[.int n,.int hi]) (aQ:=[]) (PCall.lf (σ:=[]) (ES n hi) (fun v hv=>by
  rcases zAo.1 hv with rfl|hv
  · rfl
  rw[zA9.1 hv];rfl))
 refine PCall.body Tryz.func57 rfl rfl Tryz.ntmps57 rfl rfl ?_
 repeat' (first|refine qP ?_ (h:=fun hg=>by first|exact aa|exact pc v|exact pc h4|exact PRun.kA (hq _ _) rfl rfl nd rfl rfl nds|exact af)|apply sqW|refine rgK fun U V=>?_|(refine aN V ?_;clear V U)|refine rtW ?_)
 exact⟨.inr rfl,fun _ _ h=>h⟩
theorem EV (s:Score) (hs:s.Small) (hsc:bG s=true) (r:Room) (hf:FIn r.form) (bL:aW r.form=true) (m:Mom):PCall Tryz.prog 59 ([bg s,bt r,bA m].map AV.iptr) (.prim (db (reason s r m))):=by
 have h1:=qk s hs hsc r hf bL m;refine PCall.body Tryz.func59 rfl rfl Tryz.ntmps59 rfl rfl ?_
 repeat' (first|refine qP ?_ (h:=fun hg=>by first|exact aa|exact pc h1|exact af)|apply sqW|refine rgK fun U V=>?_|(refine aN V ?_;clear V U)|refine rtW ?_)
 exact⟨.inr rfl,fun _ _ h=>h⟩
def loL (s:Score) (e:Ed.ah) (r:Room) (m:Mom):List Chk:=[
 ⟨55,[bg s,Ed.aF e,bt r],if bW s e r then 0 else 1⟩,
 ⟨57,[bA m,[.fn (.func 53) [] []]],if gY m then 0 else 1⟩,
 ⟨59,[bg s,bt r,bA m],reason s r m⟩]
def uK (e:Ed.ah) (m:Mom):Call×Bool×Int :=
 if (Ed.plR e m.bar m.pass).ok=false then (fa,false,0)
 else match sr e (Ed.plR e m.bar m.pass).pos with
  |none=>(fa,false,0)
  |some x=>(⟨x.letter,x.number,(Ed.plR e m.bar m.pass).pos - x.pos,m.pos,(Ed.plR e m.bar m.pass).pass⟩,true,0)
theorem EW (s:Score) (e:Ed.ah) (r:Room) (m:Mom):iy s e r m=if cM (loL s e r m)=0 then uK e m else (fa,false,cM (loL s e r m)):=by
 unfold iy loL;by_cases h1:bW s e r=true
 · by_cases h2:gY m=true
   · rw[h1,h2,if_neg dCd];by_cases h3:reason s r m=0
     · simp only[cM,h3];simp[uK];rfl
     · simp only[cM];simp[h3]
   · simp[cM,h1,h2]
 · simp[cM,h1]
theorem GY {s:Score} {e:Ed.ah} {r:Room} {m:Mom} (h:cM (loL s e r m)=0):bW s e r=true∧gY m=true∧reason s r m=0:=by
 unfold loL at h;cases h1:bW s e r
 · rw[h1] at h;cases h
 · cases h2:gY m
   · rw[h1,h2] at h;cases h
   · rw[h1,h2] at h;refine⟨rfl,rfl,?_⟩;unfold cM cM cM cM at h;dsimp only at h;rw[if_pos rfl,if_pos rfl,if_pos rfl] at h;by_cases h3:reason s r m=0
     · exact h3
     · rw[if_neg h3] at h;exact h
theorem Ks {e:Ed.ah} (hf:Ed.bE e=true) (a b:Int):0≤(Ed.plR e a b).pos∧(Ed.plR e a b).pos<(e.bars.length:Int):=by
 have h1:1≤e.bars.length:=by
  unfold Ed.bE Ed.iS inB at hf;simp only[zA0,dEt] at hf;omega
 have hub:=Ed.oE (Ed.plP a b) e.bars;unfold Ed.plR;split
 · split
   · exact⟨zBy _,by show(0:Int)<_;omega⟩
   · rename_i h;have h2:Ed.plI e a b<e.bars.length:=hub.2;exact⟨by show 0≤Ed.plI e a b;omega,h2⟩
 · exact⟨zBy _,by show(0:Int)<_;omega⟩
theorem Jl (e:Ed.ah) (hw:Ed.Wf e) (hf:Ed.bE e=true) (i:Int) (hi:0≤i∧i<(e.bars.length:Int)):∀k,k<(qn e i).length→PCall Tryz.prog ((qn e i).getD k default).k (((qn e i).getD k default).aQ.map AV.iptr) (nmV ((qn e i).getD k default).res):=by
 have h4:=l6 hf;have hlb:∀k,k<e.letters.length→0≤(e.letters.getD k default).pos∧(e.letters.getD k default).pos≤4000:=fun k hk=>by
  have hl:=oT hf hk;unfold Ed.kF inB at hl;simp only[zA0,dEt] at hl;omega
 intro k hk
 match k,hk with
 |0,_=>exact AP e hw hlb i ⟨hi.1,oM⟩ true
 |1,_=>exact Jj e hw h4 i hi
 |2,_=>exact AP e hw hlb i ⟨hi.1,oM⟩ false
 |3,_=>exact LR e hw h4 i hi
theorem zW (s:Score) (hs:s.Small) (e:Ed.ah) (hw:Ed.Wf e) (r:Room) (hf:FIn r.form) (m:Mom) :
 PCall Tryz.prog 22 [.agg (bg s),.agg (Ed.aF e),.agg (bt r),.agg (bA m)] (.tup [.agg (bw (iy s e r m).1),.b (iy s e r m).2.1,.int (iy s e r m).2.2]):=by
 have jQ:=tC (loL s e r m) (by show 3≤1000000000;decide) (fun k hk hz=>by
  match k,hk with
  |0,_=>exact ET s hs e hw r hf
  |1,_=>exact EU m
  | 2, _ =>
    have h0:=hz 0 oM;have h1:bW s e r=true:=by
     cases hh:bW s e r
     · have h2:(if bW s e r then (0:Int) else 1)=0:=h0;rw[hh] at h2;cases h2
     · rfl
    unfold bW tz at h1;simp only[zA0] at h1;exact EV s hs h1.1.1 r hf h1.2.2 m)
 rw[EW];by_cases hx:cM (loL s e r m)=0
 · rw[if_pos hx];obtain⟨tH,hmom,_⟩:=GY hx;rw[hx] at jQ;have bL:Ed.bE e=true:=by
    unfold bW at tH;simp only[zA0] at tH;exact tH.1.2
   have hpl:=Ed.oF e hw m.bar m.pass;have hpi:=Ks bL m.bar m.pass;have h4:=l6 bL;have hfi:=yK e hw (l6 bL) (Ed.plR e m.bar m.pass).pos;have hok:=Jl e hw bL _ hpi;have xA:=Ck (qn e (Ed.plR e m.bar m.pass).pos) hok (by show 4≤1000000000;decide);have qL:=Jk e (Ed.plR e m.bar m.pass).pos;have hnok:=fun x=>AW bL hpi (x:=x)
   have hne:nJ (db 0)=some false:=rfl;unfold Ed.wE at hpl;unfold uK;clear tH hmom hx hpl;have hpl:=Ed.oF e hw m.bar m.pass;unfold Ed.wE at hpl;generalize hP:Ed.plR e m.bar m.pass=P at *;generalize hFL:qn e P.pos=FL at *;by_cases hk:az (fun x:Fin=>x.res.isSome) FL<0
   · have hn:sr e P.pos=none:=by
      rw[qL];refine HZ _ fun j hj=>?_
      have h2:=gA (fun x:Fin=>x.res.isSome) FL;rw[decide_eq_false oM] at h2;have h3:=List.any_eq_false.1 h2.symm (FL.getD j default) (bD hj);simpa using h3
     rw[hn];refine PCall.bN ab Tryz.func22 rfl rfl Tryz.ntmps22 rfl ?_
     repeat refine sqW ?_
     refine rgK fun U V=>?_
     repeat' (first|refine qS ?_|refine aB ?_|refine aA ?_)
     refine aoN (V _ _ ?_);clear V U
     repeat refine sqW ?_
     refine rgK fun U V=>?_
     repeat' (first|refine aS ?_|refine aA ?_)
     refine aoN (V _ _ ?_);clear V U;refine AWP.cY [(4,.ptr 0 0),(5,.ptr 1 0),(6,.ptr 2 0),(7,.ptr 3 0),(8,.ptr 4 0),(9,.b false),(10,.int 0),(11,.ptr 5 0)] ⟨rfl,rfl,rfl,rfl,rfl,rfl,rfl,rfl,tI⟩ ?_;refine AWP.bj 0 rfl rfl ?_;refine AWP.bj 1 rfl rfl ?_;refine AWP.bj 2 rfl rfl ?_;refine AWP.bj 3 rfl rfl ?_;refine AWP.rR 5 rfl (uw _) ?_;refine AWP.cY [(4,.iptr (bg s)),(5,.iptr (Ed.aF e)),(6,.iptr (bt r)),(7,.iptr (bA m)),(8,.ptr 4 0),(9,.b false),(10,.int 0),(11,.iptr [.fn (.func 53) [] []])] ⟨rfl,rfl,rfl,rfl,rfl,rfl,rfl,rfl,tI⟩ ?_
     repeat' (first|refine qP ?_ (h:=fun hg=>by first|exact aa|exact pbS ab rfl rfl nds|exact pc jQ|exact PRun.im sw rfl rfl nd hne|exact pbD ab rfl rfl nds|exact pc hpl|exact pc hfi|exact pc xA|exact af)|apply sqW|refine rgK fun U V=>?_|(refine aN V ?_;clear V U)|refine aS ?_|refine cX ?_ ?_<;>intro hc<;>try simp only[dE] at hc|refine skW ?_|refine rtW ?_)
     · cases hc
     · refine⟨.inr rfl,_,rfl,Ent.of ?_⟩;rw[if_pos (show P.ok=false by simpa using hc)];rfl
     · refine⟨.inr rfl,_,rfl,Ent.of ?_⟩;rename_i hc0;rw[if_neg (show ¬P.ok=false by simpa using hc0)];rfl
     · exfalso;omega
   · obtain⟨k,hk1,hk2,hk3,hk4⟩:=bY (p:=fun x:Fin=>x.res.isSome) (l:=FL) oM;have hn:=qL.trans (HY FL k hk2 hk3 hk4);obtain⟨F,hF⟩:∃F,FL.getD k default=F:=⟨_,rfl⟩
     have hFk:=hok k hk2;rw[hF] at hn hFk hk3;rw[hk1] at xA;obtain⟨x,hx⟩:=Option.isSome_iff_exists.1 hk3;rw[hx] at hFk hn;have hxo:=hnok x (by
      rw[←hx,←hF];have:(FL.getD k default).res∈FL.map fun x=>x.res:=zAq.2 ⟨_,bD hk2,rfl⟩
      rw[←hFL] at this ⊢;exact this)
     have hx1:=hxo.at_;rw[hn];have hq:=TCall.val (first:=[]) (avs:=[]) (PCall.lf (σ:=[.dead,.dead,.dead,.dead,.var [.str ⟨#[]⟩,.int 0,.int 0,.int 0,.int 0,.int 0],.dead]) hFk (H0 F.aQ));unfold nmV at hq;clear hok hnok hxo qL hFk hn;refine PCall.bN ab Tryz.func22 rfl rfl Tryz.ntmps22 rfl ?_
     repeat refine sqW ?_
     refine rgK fun U V=>?_
     repeat' (first|refine qS ?_|refine aB ?_|refine aA ?_)
     refine aoN (V _ _ ?_);clear V U
     repeat refine sqW ?_
     refine rgK fun U V=>?_
     repeat' (first|refine aS ?_|refine aA ?_)
     refine aoN (V _ _ ?_);clear V U;refine AWP.cY [(4,.ptr 0 0),(5,.ptr 1 0),(6,.ptr 2 0),(7,.ptr 3 0),(8,.ptr 4 0),(9,.b false),(10,.int 0),(11,.ptr 5 0)] ⟨rfl,rfl,rfl,rfl,rfl,rfl,rfl,rfl,tI⟩ ?_;refine AWP.bj 0 rfl rfl ?_;refine AWP.bj 1 rfl rfl ?_;refine AWP.bj 2 rfl rfl ?_;refine AWP.bj 3 rfl rfl ?_;refine AWP.rR 5 rfl (uw _) ?_;refine AWP.cY [(4,.iptr (bg s)),(5,.iptr (Ed.aF e)),(6,.iptr (bt r)),(7,.iptr (bA m)),(8,.ptr 4 0),(9,.b false),(10,.int 0),(11,.iptr [.fn (.func 53) [] []])] ⟨rfl,rfl,rfl,rfl,rfl,rfl,rfl,rfl,tI⟩ ?_
     repeat' (first|refine qP ?_ (h:=fun hg=>by first|exact iX mH FL ((k:Nat):Int) hF (hb:=oM)|exact aa|exact pbS ab rfl rfl nds|exact pc jQ|exact PRun.im sw rfl rfl nd hne|exact pbD ab rfl rfl nds|exact pc hpl|exact pc hfi|exact pc xA|exact PRun.kA (hq) rfl rfl nd rfl rfl nds|exact af)|apply sqW|refine rgK fun U V=>?_|(refine aN V ?_;clear V U)|refine aS ?_|refine aA ?_|refine cX ?_ ?_<;>intro hc<;>try simp only[dE] at hc|refine skW ?_|refine rtW ?_)
     · cases hc
     · refine⟨.inr rfl,_,rfl,Ent.of ?_⟩;rw[if_pos (show P.ok=false by simpa using hc)];rfl
     · exfalso;omega
     · rename_i hc0;refine AWP.dZ (fun j=>match j with|0=>[.dead,.dead,.dead,.dead,.var [.str ⟨#[]⟩,.int 0,.int 0,.int 0,.int 0,.int 0],.dead,.var [.str x.letter,.int x.number,.int 0,.int 0,.int 0,.int 0]]|1=>[.dead,.dead,.dead,.dead,.var [.str ⟨#[]⟩,.int 0,.int 0,.int 0,.int 0,.int 0],.dead,.var [.str x.letter,.int x.number,.int (P.pos - x.pos),.int 0,.int 0,.int 0]]|2=>[.dead,.dead,.dead,.dead,.var [.str ⟨#[]⟩,.int 0,.int 0,.int 0,.int 0,.int 0],.dead,.var [.str x.letter,.int x.number,.int (P.pos - x.pos),.int m.pos.n,.int m.pos.d,.int 0]]|_=>[.dead,.dead,.dead,.dead,.var [.str ⟨#[]⟩,.int 0,.int 0,.int 0,.int 0,.int 0],.dead,.var [.str x.letter,.int x.number,.int (P.pos - x.pos),.int m.pos.n,.int m.pos.d,.int P.pass]]) rfl (by kernel_rfl) dKn rfl dKn (fun U V=>?_)
       repeat' (first
        |refine yt (hk:=?_)|fail)
       refine YQ.e (v:=.any) (d:=none) rfl rfl rfl ?_ ?_
       · intro aw he;exact stW ab rfl rfl ((ai (he 68 dKn)).trans rfl) (by rw[aj (he 68 dKn)];first|exact tI|exact rfl) rfl ((ai (he 64 dKn)).trans rfl) (by rw[aj (he 64 dKn)];first|exact tI|exact rfl) rfl rfl rfl rfl rfl rfl rfl ⟨rfl,rfl⟩
       repeat' (first
        |refine yt (hk:=?_)|fail)
       refine YQ.e (v:=.any) (d:=none) rfl rfl rfl ?_ ?_
       · intro aw he;exact stW ab rfl rfl ((ai (he 69 dKn)).trans rfl) (by rw[aj (he 69 dKn)];first|exact tI|exact rfl) rfl ((ai (he 66 dKn)).trans rfl) (by rw[aj (he 66 dKn)];first|exact tI|exact rfl) rfl rfl rfl rfl rfl rfl rfl ⟨rfl,rfl⟩
       repeat' (first
        |refine yt (hk:=?_)|fail)
       refine YQ.e (v:=.any) (d:=none) rfl rfl rfl ?_ ?_
       · intro aw he;exact stW ab rfl rfl ((ai (he 70 dKn)).trans rfl) (by rw[aj (he 70 dKn)];first|exact tI|exact rfl) rfl ((ai (he 67 dKn)).trans rfl) (by rw[aj (he 67 dKn)];first|exact tI|exact rfl) rfl rfl rfl rfl rfl rfl rfl ⟨rfl,rfl⟩
       repeat' (first
        |refine yt (hk:=?_)|fail)
       refine YQ.nil (V _ _ ?_);clear V U
       repeat' (first|refine qS ?_|apply sqW|refine rgK fun U V=>?_|(refine aN V ?_;clear V U)|refine aS ?_|refine rtW ?_)
       refine⟨.inr rfl,_,rfl,Ent.of ?_⟩;rw[if_neg (show ¬P.ok=false by simpa using hc0)];rfl
 · rw[if_neg hx];have hne:=tB (cM (loL s e r m));rw[decide_eq_true hx] at hne;have tE:=vu (cM (loL s e r m));rw[show oH (cM (loL s e r m))=db (cM (loL s e r m)) by unfold db;rw[if_neg hx]] at tE;generalize hy:cM (loL s e r m)=y at *;generalize hev:db y=ev at *;refine PCall.bN ab Tryz.func22 rfl rfl Tryz.ntmps22 rfl ?_
   repeat refine sqW ?_
   refine rgK fun U V=>?_
   repeat' (first|refine qS ?_|refine aB ?_|refine aA ?_)
   refine aoN (V _ _ ?_);clear V U
   repeat refine sqW ?_
   refine rgK fun U V=>?_
   repeat' (first|refine aS ?_|refine aA ?_)
   refine aoN (V _ _ ?_);clear V U;refine AWP.cY [(4,.ptr 0 0),(5,.ptr 1 0),(6,.ptr 2 0),(7,.ptr 3 0),(8,.ptr 4 0),(9,.b false),(10,.int 0),(11,.ptr 5 0)] ⟨rfl,rfl,rfl,rfl,rfl,rfl,rfl,rfl,tI⟩ ?_;refine AWP.bj 0 rfl rfl ?_;refine AWP.bj 1 rfl rfl ?_;refine AWP.bj 2 rfl rfl ?_;refine AWP.bj 3 rfl rfl ?_;refine AWP.rR 5 rfl (uw _) ?_;refine AWP.cY [(4,.iptr (bg s)),(5,.iptr (Ed.aF e)),(6,.iptr (bt r)),(7,.iptr (bA m)),(8,.ptr 4 0),(9,.b false),(10,.int 0),(11,.iptr [.fn (.func 53) [] []])] ⟨rfl,rfl,rfl,rfl,rfl,rfl,rfl,rfl,tI⟩ ?_
   repeat' (first|refine qP ?_ (h:=fun hg=>by first|exact aa|exact pbS ab rfl rfl nds|exact pc jQ|exact PRun.im sw rfl rfl nd hne|exact pbD ab rfl rfl nds|exact pc tE|exact af)|apply sqW|refine rgK fun U V=>?_|(refine aN V ?_;clear V U)|refine aS ?_|refine cX ?_ ?_<;>intro hc<;>try simp only[dE] at hc|refine skW ?_|refine rtW ?_)
   · exact⟨.inr rfl,_,rfl,Ent.of rfl⟩
   · cases hc
end Go.Proofs.YthiaimakjmhegaaGreatDoor.Pl
