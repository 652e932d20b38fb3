/- Parts of the proof. No statement is proved here. -/
import Derived.Test.YtmjdoencpjpegaaGreatDoorP32
import Derived.Test.YtmjdoencpjpegaaGreatDoorP34
set_option linter.unusedVariables false
set_option linter.unusedSimpArgs false
set_option maxHeartbeats 16000000
set_option maxRecDepth 20000
namespace Go.Ab
def DW:AV→Bool
 |.prim _=>true
 |_=>false
theorem Nn {es:List (List AV)} (h:es.all (fun x=>x.all DW)=true):∀e∈es,∀a∈e,∀M B x,af M B a x→af M [] a x:=fun e he a ha M B x hx=>by
 have h1:=zA6.1 (zA6.1 h e he) a ha;cases a<;>simp[DW] at h1;rw[af.aP hx];exact .prim _
end Go.Ab
namespace Go.Proofs.YtmjdoencpjpegaaGreatDoor.Al
open Go.Ab Go.Sort
attribute [local irreducible] AWP AOps EStep AQ PStep PRun PCall TCall VCall
theorem IB (l:PL):(l.map bz).all (fun x=>x.all DW)=true:=by
 rw[List.all_map];exact zA6.2 fun p _=>rfl
def noA:nr:=⟨[],0,[]⟩
def JC (x:Int) (k:Nat):aF:=match k with|0=>.arr 1 0 []|1=>.arr 1 1 [[.int 0]]|_=>.arr 1 1 [[.int x]]
def gl (σ:aa) (x y:Int) (j k:Nat):aa:=σ++[JC x j,JC y k]
def BM0 (a b:Score) (al:NL) (kn:KL):aa:=cM (BO a b).1 (BO a b).2.1 (BO a b).2.2 a b al kn++[.var [.ptr 7 0],.var [tX a b]]
theorem Gc (c:Int):Ent (.agg [.nils,.int c,.nils]) (.agg [.sl 2 [] .no,.int c,.sl 1 [] .no]):=Ent.agg rfl fun i u v hu hv=>by
 match i,hu,hv with
 |0,hu,hv=>cases hu;cases hv;exact Ent.nil
 |1,hu,hv=>cases hu;cases hv;exact Ent.cB _
 |2,hu,hv=>cases hu;cases hv;exact Ent.nil
 |i+3,hu,hv=>cases hu
def ql (a b:Score):Prop:=a.bars.length>200∨b.bars.length>200
instance (a b:Score):Decidable (ql a b):=by unfold ql;infer_instance
def qm (a b:Score):nr:=⟨dD (aw a b) a.bars.length b.bars.length,T (aw a b) a.bars.length b.bars.length,bK (aw a b) (a.bars.length+1) (b.bars.length+1)⟩
def sG (a b:Score):nr×Int:=if aQ a=true∧aQ b=true then (if ql a b then (noA,2) else (qm a b,0)) else (noA,1)
def pBS (a b:Score) (al:NL) (kn:KL) (i k:Nat) (acc:PL):Nat→aF:=fun j=>(BS a b al kn i k acc).getD j .dead
theorem Mj (a b:Score) (al:NL) (kn:KL) (i k:Nat) (acc:PL):∀j,ak 14 (pBS a b al kn i k acc j)=true:=fun j=>by
 have h:=nZ a b al kn i k acc;rw[zA6] at h;unfold pBS;rw[zB5];cases hh:(BS a b al kn i k acc)[j]? with
 |none=>rfl
 |some v=>exact h v (zAe hh)
theorem xP {p:Nat→aF} (hp:∀i,ak 14 (p i)=true) (l:PL) (hl:l.length≤1000000) :
 TCall Tryz.prog 201 [qi l] (RS p l.length l) (fun r s=>r=.tup []∧s=RS p l.length l.reverse):=by
 cases l with
 |nil=>exact xK hp 0
 |cons x l=>exact zT hp _ (x::l) hl
theorem Gd (c:Nat→Nat→Int) (n m:Nat):(ip (back c n m)).reverse=dD c n m:=by unfold dD ip;rw[List.map_reverse]
theorem DX (a b:Score) (ha:a.Small) (hb:b.Small):PCall Tryz.prog 169 [.agg (encS a),.agg (encS b)] (.tup [.agg (ma (sG a b).1),.int (sG a b).2]):=by
 have ha1:=ha.1;have hb1:=hb.1;have hv0:=TCall.val (first:=[]) (aM:=[]) (avs:=[.agg (encS a),.agg (encS b)]) (rH (sF a b) a b ha hb);have hp2:=fun u v=>Bc a b u v ha hb
 refine PCall.bO ab Tryz.func169 rfl rfl Tryz.ntmps169 rfl ?_
 repeat' (first|refine qS ?_|apply sqW|refine rgK fun U V=>?_|(refine aN V ?_;clear V U)|refine aB ?_|refine aA ?_|refine aoE (scT (hv0) rfl rfl rfl rfl rfl nd rfl rfl nds ?_))
 intro r s hr;unfold npR at hr;split at hr
 · rename_i hok;obtain⟨rfl,al,hg,rfl⟩:=hr;simp only[zA0] at hok;have hna:=vj hok.1;have hnb:=vj hok.2;have hna1:=hna.bars;have hR:sG a b=if ql a b then (noA,2) else (qm a b,0):=if_pos hok
   have hvT:=TCall.val (first:=[]) (aM:=[]) (avs:=[.ptr 7 0]) (TCall.frame (DO (sF a b) hna hnb hg (gv.nil a b)) [.var [.ptr 7 0]] (cT (sF a b) (nLr _) a b al _) rfl (fun rv s h=>by obtain⟨_,kn,_,h⟩:=h;rw[h];rfl))
   repeat' (first|refine qP ?_ (h:=fun hg=>by first|exact ae|exact pbW (hp2 _ _) rfl rfl nd rfl rfl nds|exact pbD ab rfl rfl nds|exact ah)|apply sqW|refine rgK fun U V=>?_|(refine aN V ?_;clear V U)|refine aS ?_|refine aA ?_|refine aoE (scT (hvT) rfl rfl rfl rfl rfl nd rfl rfl nds ?_)|refine cX ?_ ?_<;>intro hc<;>try simp only[dE] at hc|refine blK ?_|refine skW ?_|refine rtW ?_)
   all_goals (first|exact dd|skip)
   · rw[hR,if_pos (by simp only[zAj,zBn,zA0,zAl,zBr,dEt,dEf,zB1,zB0,beq_iff_eq,beq_eq_false_iff_ne,bne_iff_ne,bne_eq_false_iff_eq,gt_iff_lt,ge_iff_le,ne_eq] at hc;exact hc)];exact⟨.inr rfl,_,rfl,Ent.fL (Gc 0) (Ent.cB _)⟩
   have hlg:¬ql a b:=by unfold ql;simp only[zAj,zBn,zA0,zAl,zBr,dEt,dEf,zB1,zB0,beq_iff_eq,beq_eq_false_iff_ne,bne_iff_ne,bne_eq_false_iff_eq,gt_iff_lt,ge_iff_le,ne_eq] at hc;omega
   rw[if_neg hlg] at hR;clear hc hvT hp2;rintro _ _ ⟨σ',rfl,rfl,kn,hkn,rfl⟩;have l1:=kM (aw a b) (a.bars.length+1) (b.bars.length+1)
   repeat' (first|apply sqW|(refine aN V ?_;clear V U)|refine aS ?_|refine aA ?_)
   refine AWP.kG 1 (AWP.kG 1 ?_);refine AWP.CM 2 (clsT [9,10]) (fun J=>gl (BM0 a b al kn) a.bars.length b.bars.length (J 1) (J 2)) rfl (by kernel_rfl) dKn rfl dKn (fun U V=>?_)
   repeat' (first
    |refine VQ.q rfl dKn rfl rfl (fun J' hg=>by first|exact ae|exact ah) (by exact rfl) ?_)
   refine VQ.e 1 0 (v:=.bo 10 1 0 0 1) (d:=some 9) rfl dKn rfl ?_ ?_
   · intro au he J' hJ;show EStep _ _ _ _ (fun e s=>_∧s=gl _ _ _ (J' 1+1) (J' 2)) au (gl _ _ _ (J' 1) (J' 2));rw[hJ];exact EStep.pG (l:=10) (sz:=1) ab rfl rfl rfl rfl rfl rfl rfl rfl ⟨rfl,rfl⟩
   refine VQ.e 2 0 (v:=.bo 11 1 0 0 1) (d:=some 10) rfl dKn rfl ?_ ?_
   · intro au he J' hJ;show EStep _ _ _ _ (fun e s=>_∧s=gl _ _ _ (J' 1) (J' 2+1)) au (gl _ _ _ (J' 1) (J' 2));rw[hJ];exact EStep.pG (l:=11) (sz:=1) ab rfl rfl rfl rfl rfl rfl rfl rfl ⟨rfl,rfl⟩
   refine VQ.e 1 1 (v:=.any) (d:=none) rfl dKn rfl ?_ ?_
   · intro au he J' hJ;show EStep _ _ _ _ (fun e s=>_∧s=gl _ _ _ (J' 1+1) (J' 2)) au (gl _ _ _ (J' 1) (J' 2));rw[hJ];exact EStep.dK (l:=10) ab rfl rfl ((ai (he 9 dKn)).trans rfl) (by rw[aj (he 9 dKn)];first|exact tI|exact rfl) rfl (zAa _) ((ai (he 31 dKn)).trans rfl) (by rw[aj (he 31 dKn)];first|exact tI|exact rfl) rfl rfl rfl rfl rfl rfl ⟨rfl,rfl⟩
   refine VQ.e 2 1 (v:=.any) (d:=none) rfl dKn rfl ?_ ?_
   · intro au he J' hJ;show EStep _ _ _ _ (fun e s=>_∧s=gl _ _ _ (J' 1) (J' 2+1)) au (gl _ _ _ (J' 1) (J' 2));rw[hJ];exact EStep.dK (l:=11) ab rfl rfl ((ai (he 10 dKn)).trans rfl) (by rw[aj (he 10 dKn)];first|exact tI|exact rfl) rfl (zAa _) ((ai (he 34 dKn)).trans rfl) (by rw[aj (he 34 dKn)];first|exact tI|exact rfl) rfl rfl rfl rfl rfl rfl ⟨rfl,rfl⟩
   refine VQ.nil (V _ _ ?_);clear V U;show AWP _ _ _ _ _ (gl (BM0 a b al kn) a.bars.length b.bars.length 2 2);refine AWP.dX [(2,.ptr 0 0),(3,.ptr 1 0),(4,.ptr 2 0),(6,.ptr 8 0),(8,.ptr 9 0),(9,.bo 10 1 0 0 1),(10,.bo 11 1 0 0 1)] ⟨rfl,rfl,rfl,rfl,rfl,rfl,rfl,tI⟩ ?_
   repeat' (first|refine sqW ?_)
   refine AWP.gj dJ (fun q=>match q with|0=>gl (BM0 a b al kn) a.bars.length b.bars.length 2 2|1=>gl (BM0 a b al kn) a.bars.length b.bars.length 2 2++[.var [.nils,.int 0,.nils]]|_=>gl (BM0 a b al kn) a.bars.length b.bars.length 2 2++[.var [.nils,.int (T (aw a b) a.bars.length b.bars.length),tX a b]]) rfl (by kernel_rfl) dKn rfl dKn (fun U V=>?_)
   repeat' (first
    |refine yt (h:=by refine⟨?_,?_,?_,?_⟩<;>intro hh hg<;>first|exact absurd hh dKn|exact iX encI (bU (aw a b) a.bars.length (b.bars.length+1)) ((b.bars.length:Nat):Int) (x:=T (aw a b) a.bars.length b.bars.length) (dM oM _) (hb:=by rw[fG];omega)|exact iX cG (bK (aw a b) (a.bars.length+1) (b.bars.length+1)) ((a.bars.length:Nat):Int) (x:=bU (aw a b) a.bars.length (b.bars.length+1)) (fm oM _) (hb:=by rw[l1];omega)|exact ae|exact PRun.cZ ab rfl rfl nd rfl (zAa _) rfl rfl rfl|exact pbD ab rfl rfl nds|exact ah|fail) (hk:=?_)|fail)
   refine YQ.e (v:=.ptr 12 0) (d:=some 11) rfl rfl rfl ?_ ?_
   · intro au he;exact alW ab rfl rfl rfl rfl rfl rfl ⟨rfl,rfl⟩
   repeat' (first
    |refine yt (hk:=?_)|fail)
   refine YQ.e (v:=.any) (d:=none) rfl rfl rfl ?_ ?_
   · intro au he;exact stW ab rfl rfl ((ai (he 11 dKn)).trans rfl) (by rw[aj (he 11 dKn)];first|exact tI|exact rfl) rfl ((ai (he 43 dKn)).trans rfl) (by rw[aj (he 43 dKn)];first|exact tI|exact rfl) rfl rfl rfl rfl rfl rfl rfl ⟨rfl,rfl⟩
   repeat' (first
    |refine yt (hk:=?_)|fail)
   refine YQ.nil (V _ _ ?_);clear V U;show AWP _ _ _ _ _ (gl (BM0 a b al kn) a.bars.length b.bars.length 2 2++[.var [.nils,.int (T (aw a b) a.bars.length b.bars.length),tX a b]])
   repeat' (first|refine qS ?_|apply sqW|refine rgK fun U V=>?_|(refine aN V ?_;clear V U)|refine blK ?_)
   refine AWP.BJ (v:=12) (i:=0) (sz:=2) rfl rfl ?_
   refine lpD (ι:=KL×Nat×Nat×PL) (fun _=>[(4,.ptr 2 0),(9,.bo 10 1 0 0 1),(10,.bo 11 1 0 0 1),(11,.ptr 12 0),(12,.fn (.func 199) [] [.bo 10 1 0 0 1,.bo 11 1 0 0 1,.ptr 9 0,.ptr 8 0,.ptr 12 0])]) (fun q=>BS a b al q.1 q.2.1 q.2.2.1 q.2.2.2)
    (fun q=>gv a b q.1∧q.2.1≤a.bars.length∧q.2.2.1≤b.bars.length∧q.2.2.2.length+q.2.1≤a.bars.length∧q.2.2.2++ip (back (aw a b) q.2.1 q.2.2.1)=ip (back (aw a b) a.bars.length b.bars.length)) (fun q=>q.2.1+q.2.2.1) 14 (fun _=>rfl) (kn,a.bars.length,b.bars.length,[]) ⟨hkn,nLr _,nLr _,by simp,rfl⟩ ⟨rfl,rfl,rfl,rfl,rfl,tI⟩ rfl (fun _ _=>rfl) (fun q _=>nZ a b al _ _ _ _) ?_
   rintro⟨kn1,i,k,acc⟩ ⟨hk1,hi,hk,Io,hbk⟩;dsimp only at hk1 hi hk Io hbk;by_cases h0:i=0∧k=0
   · obtain⟨rfl,rfl⟩:=h0;rw[Ac,show ip []=[] from rfl,zCc] at hbk;have hrv:=TCall.val (first:=[]) (aM:=[]) (avs:=[qi acc]) (xP (Mj a b al kn1 0 0 acc) acc oM);have hrev:acc.reverse=dD (aw a b) a.bars.length b.bars.length:=by rw[hbk];exact Gd _ _ _
     clear hbk;cases acc with
     | nil =>
       repeat' (first|refine qP ?_ (h:=fun hg=>by first|exact ae|exact PRun.cZ ab rfl rfl nd rfl (zAa _) rfl rfl rfl|exact ah)|apply sqW|refine rgK fun U V=>?_|(refine aN V ?_;clear V U)|refine aoE (scT (hrv) rfl rfl rfl rfl rfl nd rfl rfl nds ?_)|refine cX ?_ ?_<;>intro hc<;>try simp only[dE] at hc|refine blK ?_|refine exW ?_|refine skW ?_)
       all_goals (first|exact dd|skip)
       rintro _ _ ⟨rfl,rfl⟩
       repeat' (first|refine qS ?_|apply sqW|refine rgK fun U V=>?_|(refine aN V ?_;clear V U)|refine aS ?_|refine rtW ?_)
       rw[hR];refine⟨.inr rfl,_,rfl,Ent.of ?_⟩;unfold qm;rw[←hrev];rfl
     | cons x acc =>
       repeat' (first|refine qP ?_ (h:=fun hg=>by first|exact ae|exact PRun.cZ ab rfl rfl nd rfl (zAa _) rfl rfl rfl|exact ah)|apply sqW|refine rgK fun U V=>?_|(refine aN V ?_;clear V U)|refine aoE (scT (hrv) rfl rfl rfl rfl rfl nd rfl rfl nds ?_)|refine cX ?_ ?_<;>intro hc<;>try simp only[dE] at hc|refine blK ?_|refine exW ?_|refine skW ?_)
       all_goals (first|exact dd|skip)
       rintro _ _ ⟨rfl,rfl⟩;refine aoN (V _ _ ?_);clear V U;show AWP _ _ _ _ _ _;refine AWP.pH (l:=13) (sz:=2) (ver:=(x::acc).length) (es:=(x::acc).reverse.map bz) rfl ?_ ?_
       · exact Nn (IB _)
       refine AWP.dX [(4,.ptr 2 0),(11,.ptr 12 0)] ⟨rfl,rfl,tI⟩ ?_;have dY:jk 13 2 (x::acc).length ((x::acc).reverse.map bz) (qi (x::acc))=.sl 2 ((x::acc).reverse.map bz) .no:=by
        unfold qi jk;dsimp only;rw[if_pos ⟨rfl,rfl,rfl,by rw[lLm,zDs],rfl⟩]
       show AWP _ _ _ _ _ [iC 13 2 (x::acc).length ((x::acc).reverse.map bz) (pBS a b al kn1 0 0 (x::acc) 0),iC 13 2 (x::acc).length ((x::acc).reverse.map bz) (pBS a b al kn1 0 0 (x::acc) 1),.var [.nils,.int 0,.nils],iC 13 2 (x::acc).length ((x::acc).reverse.map bz) (pBS a b al kn1 0 0 (x::acc) 3),iC 13 2 (x::acc).length ((x::acc).reverse.map bz) (pBS a b al kn1 0 0 (x::acc) 4),iC 13 2 (x::acc).length ((x::acc).reverse.map bz) (pBS a b al kn1 0 0 (x::acc) 5),iC 13 2 (x::acc).length ((x::acc).reverse.map bz) (pBS a b al kn1 0 0 (x::acc) 6),iC 13 2 (x::acc).length ((x::acc).reverse.map bz) (pBS a b al kn1 0 0 (x::acc) 7),iC 13 2 (x::acc).length ((x::acc).reverse.map bz) (pBS a b al kn1 0 0 (x::acc) 8),iC 13 2 (x::acc).length ((x::acc).reverse.map bz) (pBS a b al kn1 0 0 (x::acc) 9),iC 13 2 (x::acc).length ((x::acc).reverse.map bz) (pBS a b al kn1 0 0 (x::acc) 10),iC 13 2 (x::acc).length ((x::acc).reverse.map bz) (pBS a b al kn1 0 0 (x::acc) 11),.var [jk 13 2 (x::acc).length ((x::acc).reverse.map bz) (qi (x::acc)),.int (T (aw a b) a.bars.length b.bars.length),tX a b],.dead];rw[dY]
       repeat' (first|refine qS ?_|apply sqW|refine rgK fun U V=>?_|(refine aN V ?_;clear V U)|refine aS ?_|refine rtW ?_)
       rw[hR];refine⟨.inr rfl,_,rfl,Ent.of ?_⟩;unfold qm;rw[←hrev];rfl
   · have hst:TCall Tryz.prog 199 [.bo 10 1 0 0 1,.bo 11 1 0 0 1,.ptr 9 0,.ptr 8 0,.ptr 12 0] (BS a b al kn1 i k acc) (yb a b al i k acc):=by
      cases i with
      | zero =>
        cases k with
        |zero=>exact absurd ⟨rfl,rfl⟩ h0
        |succ k=>exact F1 hna hnb hg hk1 hk acc
      | succ i =>
        cases k with
        |zero=>exact K3 hna hnb hg hk1 hi acc
        |succ k=>exact F2 hna hnb hg hk1 hi hk acc oM
     have pj:=TCall.val (first:=[]) (aM:=[.bo 10 1 0 0 1,.bo 11 1 0 0 1,.ptr 9 0,.ptr 8 0,.ptr 12 0]) (avs:=[]) hst
     repeat' (first|refine qP ?_ (h:=fun hg=>by first|exact ae|exact PRun.cZ ab rfl rfl nd rfl (zAa _) rfl rfl rfl|exact ah)|apply sqW|refine rgK fun U V=>?_|(refine aN V ?_;clear V U)|refine aoE (scT (pj) rfl rfl rfl rfl rfl nd rfl rfl nds ?_)|refine cX ?_ ?_<;>intro hc<;>try simp only[dE] at hc|refine blK ?_|refine exW ?_|refine skW ?_)
     all_goals (first|exact dd|skip)
     rintro _ _ ⟨rfl,kn2,i2,k2,acc2,g1,g2,g3,g4,g5,g6,rfl⟩
     repeat' (first|(refine aN V ?_;clear V U))
     exact⟨(kn2,i2,k2,acc2),⟨g1,by show i2≤_;omega,by show k2≤_;omega,by show acc2.length+i2≤_;omega,g6.trans hbk⟩,by show i2+k2<i+k;exact g4,⟨rfl,rfl,rfl,rfl,rfl,tI⟩,rfl⟩
 · rename_i hok;obtain⟨rfl,rfl⟩:=hr;have hR:sG a b=(noA,1):=if_neg (fun h=>hok (by rw[h.1,h.2];rfl))
   repeat' (first|refine qP ?_ (h:=fun hg=>by first|exact ae|exact pbD ab rfl rfl nds|exact ah)|apply sqW|refine rgK fun U V=>?_|(refine aN V ?_;clear V U)|refine aS ?_|refine aA ?_|refine cX ?_ ?_<;>intro hc<;>try simp only[dE] at hc|refine blK ?_|refine rtW ?_)
   all_goals (first|exact dd|skip)
   rw[hR];exact⟨.inr rfl,_,rfl,Ent.fL (Gc 0) (Ent.cB _)⟩
end Go.Proofs.YtmjdoencpjpegaaGreatDoor.Al
namespace Go.Proofs.YtmjdoencpjpegaaGreatDoor.Al
open Go.Ab Go.Sort
def TF (c:Nat→Nat→Int):Nat→Nat→Nat→Int
 |0,_,_=>0
 |_+1,0,k=>2 * (k:Int)
 |_+1,i+1,0=>2 * ((i+1:Nat):Int)
 |f+1,i+1,k+1=>min (TF c f i (k+1)+2) (min (TF c f (i+1) k+2) (TF c f i k+c i k))
theorem wA (c:Nat→Nat→Int):∀f i k:Nat,i+k<f→TF c f i k=T c i k
 |0,_,_,h=>absurd h (zEa _)
 |f+1,0,k,_=>by rw[TF,lR]
 |f+1,i+1,0,_=>by rw[TF,jv]
 |f+1,i+1,k+1,h=>by rw[TF,oN,wA c f i (k+1) oM,wA c f (i+1) k oM,wA c f i k oM]
def oa (c:Nat→Nat→Int):Nat→Nat→Nat→List (Nat×Nat)
 |0,_,_=>[]
 |_+1,0,_=>[]
 |f+1,i+1,0=>oa c f i 0
 |f+1,i+1,k+1=>if TF c (f+1) (i+1) (k+1)=TF c f i k+c i k then (i,k)::oa c f i k else if TF c (f+1) (i+1) (k+1)=TF c f i (k+1)+2 then oa c f i (k+1) else oa c f (i+1) k
theorem xp (c:Nat→Nat→Int):∀k:Nat,back c 0 k=[]
 |0=>Ac
 |k+1=>by rw[back];exact xp c k
theorem kS (c:Nat→Nat→Int):∀f i k:Nat,i+k<f→oa c f i k=back c i k
 |0,_,_,h=>absurd h (zEa _)
 |f+1,0,k,_=>by rw[oa,xp]
 |f+1,i+1,0,h=>by rw[oa,back,kS c f i 0 oM]
 |f+1,i+1,k+1,h=>by rw[oa,back,wA c (f+1) (i+1) (k+1) oM,wA c f i k oM,wA c f i (k+1) oM,kS c f i (k+1) oM,kS c f (i+1) k oM,kS c f i k oM]
end Go.Proofs.YtmjdoencpjpegaaGreatDoor.Al
namespace Go.Proofs.YtmjdoencpjpegaaGreatDoor.Al
open Go.Ab Go.Sort
attribute [local irreducible] AWP AOps EStep AQ PStep PRun PCall TCall VCall
theorem Ge:∀{l:List (Nat×Nat)} {i k:Nat},RP i k l→l.length≤i
 |[],_,_,_=>nZl _
 | x :: r, i, k, ⟨h1, _, h3⟩ => by
   have:=Ge h3;rw[zAc];omega
theorem DY (c:Nat→Nat→Int) (n m:Nat):(dD c n m).length≤n:=by
 unfold dD ip;rw[lLm,zDs];exact Ge (ga (c:=c) n m).1
theorem oC {s:Score} (h:dt s=true):s.bars.length≤12∧s.notes.length≤60:=by
 unfold dt at h;simp only[zA0,dEt] at h;omega
theorem Bn {a b:Score} (ha:aQ a=true) (hb:aQ b=true) {x:nr} (hx:x.pairs=dD (aw a b) a.bars.length b.bars.length):jG a b x=(hZ a b (np (dD (aw a b) a.bars.length b.bars.length)),0):=by
 unfold jG;rw[hx,ha,hb,(wX (aw a b) a.bars.length b.bars.length).1];rfl
theorem Gf {α β:Type} [Inhabited α] [Inhabited β] (f:α→β) {l:List α} {k:Nat} (h:k<l.length):(l.map f).getD k default=f (l.getD k default):=by
 rw[aU (by rw[lLm];exact h),List.getElem_map,aU h]
end Go.Proofs.YtmjdoencpjpegaaGreatDoor.Al
namespace Go.Ab
theorem PRun.o8 {P:Program} {o:Oper} {env:Env} {σ:aa} {κ α:Type} [DecidableEq κ] {ek:κ→Value} {ev:α→AV} {t kt et:TypeId} {m x:Operand} {al:List (κ×α)} {key:κ} {zv:α} {uk um:AV} {ok:Bool} {s1 b1:Nat} {z:List Z} {le:LI} {r:Option α} (h:lk al key=r)
 (K:KeyLaw P kt ek) (hl:LOk P t ⟨.map kt et,s1,b1,z⟩) (he:LOk P et le) (hz:js le=ev zv) (ho:o.op=.lookup t m x ok) (hm:Rd env m um)
 (hum:um=.imap (aD ek ev al)∨∃l,um=.map l∧σ[l]? = some (.map (aD ek ev al)))
 (hx:Rd env x uk) (hex:fx uk=some (ek key)):PRun P o env σ (if ok then .tup [ev (r.getD zv),.b r.isSome] else ev (r.getD zv)):=h▸PRun.lookup K hl he hz ho hm hum hx hex
def cO {κ α:Type} [DecidableEq κ] (al l:List (κ×α)):List (κ×α):=l.foldl (fun al p=>ins al p.1 p.2) al
theorem xq {κ α:Type} [DecidableEq κ] (al l:List (κ×α)) (p:κ×α):cO al (l++[p])=ins (cO al l) p.1 p.2:=by unfold cO;rw[zC6];rfl
theorem wB {κ α:Type} [DecidableEq κ]:∀(l al:List (κ×α)) (k:κ),(∀p∈l,p.1≠k)→lk (cO al l) k=lk al k
 |[],_,_,_=>rfl
 | p :: l, al, k, h => by
   show lk (cO (ins al p.1 p.2) l) k=_;rw[wB l _ k fun q hq=>h q (zAk _ hq),Go.Proofs.YtmjdoencpjpegaaGreatDoor.fR,if_neg (h p (zAr ..))]
theorem oD {κ α:Type} [DecidableEq κ]:∀{l al:List (κ×α)} {k:κ} {v:α},(l.map (·.1)).Nodup→(k,v)∈l→lk (cO al l) k=some v
 |[],_,_,_,_,h=>by cases h
 | p :: l, al, k, v, hn, h => by
   rw[zBd,zC1] at hn;rcases zAw.1 h with h|h
   · subst h;show lk (cO (ins al k v) l) k=_;rw[wB l _ k fun q hq e=>hn.1 (zAf.2 ⟨q,hq,e⟩),Go.Proofs.YtmjdoencpjpegaaGreatDoor.fR,if_pos rfl]
   · exact oD (l:=l) hn.2 h
theorem Ai {κ α:Type} [DecidableEq κ] {l:List (κ×α)} {k:κ} {v:α}:∀{al:List (κ×α)},lk (cO al l) k=some v→lk al k=some v∨(k,v)∈l:=by
 induction l with
 |nil=>intro al h;exact .inl h
 | cons p l ih =>
   intro al h;rcases ih (al:=ins al p.1 p.2) h with h|h
   · rw[Go.Proofs.YtmjdoencpjpegaaGreatDoor.fR] at h;split at h
     · rename_i e;cases h;exact .inr (by rw[←e];exact zAr ..)
     · exact .inl h
   · exact .inr (zAk _ h)
end Go.Ab
namespace Go.Proofs.YtmjdoencpjpegaaGreatDoor.Al
open Go.Ab Go.Sort
end Go.Proofs.YtmjdoencpjpegaaGreatDoor.Al
namespace Go.Ab
theorem TCall.bO {P : Program} {T : Tab} (hT : T.Ok P) {f : FuncId} {fn : Func} {c : Code} {n : Nat} {avs : List AV} {σ : aa} {Q : AV → aa → Prop} (hf : P.funcs[f]? = some fn) (hb : fn.body = some c) (hnm : (fn.name == "runtime.NumGoroutine") = false)
 (hn:fn.ntmps=n) (jQ:decide (avs.length≤n)=true)
 (h:AWP P n c (fun x e s=>(x=.normal∨x=.ret)∧∃(rv u:AV) (σ':aa),Q rv σ'∧s.take σ'.length=σ'∧σ.length≤σ'.length∧σ'.all (ak σ'.length)=true∧th T e s fn.results.toList=some u∧Ent u rv) (Env.init avs) σ):TCall P f avs σ Q:=by
 refine⟨⟨fn,hf,by simp[hb],hnm⟩,fun G w vs hs ha=>?_⟩;refine(mh hf hb hn (of_decide_eq_true jQ) h hs.enter rfl rfl ha (R:=fun v w'=>∃rv σ' G',Q rv σ'∧G.Le G'∧az G' σ' w'∧af G'.M G'.B rv v) (fun x e s hk=>hk.1) ?_).mono ?_
 · rintro x e s G' tmps w' ⟨_,rv,u,σ',hQ,htk,hlen,hok,hu,pg⟩ hm0 hw0 hM hB hs' hvals;obtain⟨v,g1,g2⟩:=sO hT hs' hvals hu;refine⟨v,g1,rv,σ',{ G with M:=G'.M,B:=G'.B.take σ'.length },hQ,.up hM fun l g hl=>?_,?_,(pg _ _ g2).mono (Mem.Le.refl _) fun l g hl=>by simp at hl⟩
   · obtain⟨g',k1,k2⟩:=hB l g hl;have:l<σ'.length:=by
      have h1:l<G.B.length:=by
       rcases nLg l G.B.length with h|h
       · exact h
       · simp[zA2 h] at hl
      rw[hs.len] at h1;omega
     exact⟨g',db k1 this,k2⟩
   · have:=hs'.take σ'.length (by rw[htk];exact hok);rw[htk] at this;exact hs.leave this hm0 hw0
 · rintro e w' ⟨v,rfl,rv,σ',G',h1,h2⟩;exact⟨v,rv,σ',G',rfl,h1,h2⟩
end Go.Ab
namespace Go.Proofs.YtmjdoencpjpegaaGreatDoor.Cy
open Go.Ab Go.Sort Al
attribute [local irreducible] AWP AOps EStep AQ PStep PRun PCall TCall VCall
def evI (p:PL):AV:=.imap (Go.Ab.aD ekI AV.int p)
def eT (to:Score):PL:=to.notes.map fun n=>(n.id,n.id)
def jq (o0 o1 o2 o3:aF) (l:List Score) (to:Score) (al:List (Int×PL)):aa :=
 [o0,o1,o2,o3,.dead,.var (encS to),.dead,.map (Go.Ab.aD ekI evI al),.var [.sl 4 (l.map encS) .no,.int to.version,.sl 4 (to.bars.map bD) .no,.sl 13 (to.parts.map bt) .no,.sl 12 (to.notes.map ar) .no,.map 7]]
def qn (o0 o1 o2 o3:aF):Prop:=∀m,4≤m→ak m o0=true∧ak m o1=true∧ak m o2=true∧ak m o3=true
theorem Ml (m:Nat) (al:List (Int×PL)):ak m (.map (Go.Ab.aD ekI evI al))=true:=by
 show(Go.Ab.aD ekI evI al).all (fun kv=>aG m 3 kv.2)=true;rw[zA6];intro x hx;obtain⟨p,_,rfl⟩:=zAf.1 hx;rfl
theorem Ce (m:Nat) (al:PL):ak m (.map (Go.Ab.aD ekI AV.int al))=true:=by
 show(Go.Ab.aD ekI AV.int al).all (fun kv=>aG m 3 kv.2)=true;rw[zA6];intro x hx;obtain⟨p,_,rfl⟩:=zAf.1 hx;rfl
theorem im {o0 o1 o2 o3:aF} (h:qn o0 o1 o2 o3) {m:Nat} (hm:9≤m) (l:List Score) (to:Score) (al:List (Int×PL)):(jq o0 o1 o2 o3 l to al).all (ak m)=true:=by
 obtain⟨h0,h1,h2,h3⟩:=h m oM;have h7:ak m (.var [.sl 4 (l.map encS) .no,.int to.version,.sl 4 (to.bars.map bD) .no,.sl 13 (to.parts.map bt) .no,.sl 12 (to.notes.map ar) .no,.map 7])=true:=by
  show(true&&(true&&(true&&(true&&(true&&(decide (7<m)&&true))))))=true;rw[decide_eq_true oM];rfl
 simp only[jq,zAq,zAu,h0,h1,h2,h3,Ml,h7];rfl
def ncR (o0 o1 o2 o3:aF) (l:List Score) (v:Int) (r:AV) (s:aa):Prop :=
 if bL l v<0 then r=.tup [.prim (.pointer none),.int 32]∧s=[o0,o1,o2,o3] else r=.tup [.ptr 8 0,.int 0]∧s=jq o0 o1 o2 o3 l (atS l (bL l v).toNat) [(v,cO [] (eT (atS l (bL l v).toNat)))]
theorem Gg {to:Score} {k:Nat} (h:k<to.notes.length) {n:ag} (hn:to.notes.getD k default=n):cO [] ((eT to).take (k+1))=ins (cO [] ((eT to).take k)) n.id n.id:=by
 have h1:k<(eT to).length:=by unfold eT;rw[lLm];exact h
 have h2:(eT to).getD k default=(n.id,n.id):=by unfold eT;rw[Gf _ h,hn]
 rw[jK h1,h2];exact xq _ _ _
theorem oc {o0 o1 o2 o3:aF} (h4:qn o0 o1 o2 o3) (l:List Score) (hl:l.length≤1000000) (hsm:∀s∈l,s.Small) (v:Int):TCall Tryz.prog 61 [.sl 4 (l.map encS) .no,.int v] [o0,o1,o2,o3] (ncR o0 o1 o2 o3 l v):=by
 have h1:=vv _ l oM v (Iu · v);obtain⟨k0,k1,k2,k3⟩:=h4 4 (nLr _);refine TCall.body Tryz.func61 rfl rfl Tryz.ntmps61 rfl rfl ?_
 repeat' (first|refine sqW ?_)
 refine rgK fun U V=>?_
 refine aB ?_;refine qP ?_ (h:=fun hg=>ae);refine qP ?_ (h:=fun hg=>ae);refine aoN (V _ _ ?_);clear V U;show AWP _ _ _ _ _ [o0,o1,o2,o3,.var [.int v]];refine AWP.ei 4 rfl rfl ?_;refine AWP.dX [(0,.sl 4 (l.map encS) .no),(3,.iptr [.int v]),(4,.prim (.pointer none)),(5,.int 0)] ⟨rfl,rfl,rfl,rfl,tI⟩ ?_;show AWP _ _ _ _ _ [o0,o1,o2,o3,.dead];by_cases hf:bL l v<0
 · have e:mb l v=[.int 0,.nils,.nils,.nils]:=if_pos hf;rw[e,decide_eq_true hf] at h1
   repeat' (first|refine qP ?_ (h:=fun hg=>by first|exact ae|exact pc h1|exact ah)|apply sqW|refine rgK fun U V=>?_|(refine aN V ?_;clear V U)|refine aS ?_|refine aA ?_|refine cX ?_ ?_<;>intro hc<;>try simp only[dE] at hc|refine skW ?_|refine rtW ?_)
   all_goals (first|exact dd|skip)
   refine⟨.inr rfl,_,[o0,o1,o2,o3],?_,rfl,nLr _,?_,rfl,rfl⟩
   · unfold ncR;rw[if_pos hf];exact⟨rfl,rfl⟩
   · simp only[zAc,zAi,zAq,zAu,k0,k1,k2,k3];rfl
 · have e:mb l v=encS (atS l (bL l v).toNat):=if_neg hf;rw[e,decide_eq_false hf] at h1;obtain⟨k,hk,hlt,hkv⟩:=iZ hf;have hR:ncR o0 o1 o2 o3 l v=fun r s=>r=.tup [.ptr 8 0,.int 0]∧s=jq o0 o1 o2 o3 l (atS l k) [(v,cO [] (eT (atS l k)))]:=by
    funext r s;unfold ncR;rw[if_neg hf,hk,zAj]
   rw[hR];rw[hk,zAj] at h1;have hs3:=(hsm (atS l k) (bT hlt)).2.2;generalize atS l k=to at *;clear hR e
   repeat' (first|refine qP ?_ (h:=fun hg=>by first|exact ae|exact pc h1|exact ah)|apply sqW|refine rgK fun U V=>?_|(refine aN V ?_;clear V U)|refine aS ?_|refine aA ?_|refine aoE (EStep.cz rfl rfl rfl rfl ?_)|refine cX ?_ ?_<;>intro hc<;>try simp only[dE] at hc|refine blK ?_|refine skW ?_|refine rtW ?_)
   all_goals (first|exact dd|skip)
   refine lpD (ι:=Nat) (fun k=>[(0,.sl 4 (l.map encS) .no),(3,.iptr [.int v]),(6,.ptr 5 0),(8,.map 6),(21,.sl 12 (to.notes.map ar) .no),(22,.int to.notes.length),(23,.int k)]) (fun k=>[o0,o1,o2,o3,.dead,.var (encS to),.map (Go.Ab.aD ekI AV.int (cO [] ((eT to).take k)))])
    (fun k=>k≤to.notes.length) (fun k=>to.notes.length - k) 7 (fun _=>rfl) 0 (nZl _) ⟨rfl,rfl,rfl,rfl,rfl,rfl,rfl,tI⟩ rfl (fun _ _=>rfl) (fun k _=>by obtain⟨j0,j1,j2,j3⟩:=h4 7 dCd;simp only[zAq,zAu,j0,j1,j2,j3,Ce];rfl) ?_
   intro k hk;by_cases hlt:k<to.notes.length
   · obtain⟨n,hn⟩:∃n,to.notes.getD k default=n:=⟨_,rfl⟩
     have hsu:=Gg hlt hn
     repeat' (first|refine qP ?_ (h:=fun hg=>by first|exact iX ar to.notes (((k):Nat):Int) hn (hb:=oM)|exact ae|exact ah)|apply sqW|refine rgK fun U V=>?_|(refine aN V ?_;clear V U)|refine aS ?_|refine aA ?_|refine aoE (EStep.dm (ek:=ekI) (ev:=AV.int) (al:=cO [] ((eT to).take k)) (key:=n.id) (v:=n.id) (ay (lkG rfl)) (lkG rfl) rfl rfl rfl (Rd.w rfl tI) rfl (Rd.w rfl tI) rfl (Rd.w rfl tI) ?_)|refine cX ?_ ?_<;>intro hc<;>try simp only[dE] at hc|refine blK ?_|refine exW ?_|refine skW ?_)
     all_goals (first|exact dd|skip)
     exact⟨k+1,hlt,by show to.notes.length - (k+1)<to.notes.length - k;omega,⟨rfl,rfl,rfl,rfl,rfl,rfl,rfl,tI⟩,by show _=[_,_,_,_,_,_,aF.map (Go.Ab.aD ekI AV.int (cO [] ((eT to).take (k+1))))];rw[hsu];rfl⟩
   · obtain rfl:k=to.notes.length:=oM;have aT:(eT to).take to.notes.length=eT to:=zAn (by unfold eT;rw[lLm];exact nLr _);rw[aT]
     repeat' (first|refine qS ?_|apply sqW|refine rgK fun U V=>?_|(refine aN V ?_;clear V U))
     refine cdW rfl tI (fun hc=>?_) (fun hc=>?_)
     · exfalso;simp at hc
     refine exW ?_;show AWP _ _ _ _ _ [o0,o1,o2,o3,.dead,.var (encS to),.map (Go.Ab.aD ekI AV.int (cO [] (eT to)))];refine AWP.lQ (ek:=ekI) (ev:=AV.int) (al:=cO [] (eT to)) (l:=6) rfl nC ?_;refine AWP.dX [(0,.sl 4 (l.map encS) .no),(3,.iptr [.int v]),(6,.ptr 5 0),(8,evI (cO [] (eT to)))] ⟨rfl,rfl,rfl,rfl,tI⟩ ?_;show AWP _ _ _ _ _ [o0,o1,o2,o3,.dead,.var (encS to),.dead]
     repeat' (first|refine qP ?_ (h:=fun hg=>by first|exact ae|exact pbD ab rfl rfl nds|exact ah)|apply sqW|refine rgK fun U V=>?_|(refine aN V ?_;clear V U)|refine aB ?_|refine aoE (EStep.cz rfl rfl rfl rfl ?_)|refine aoE (EStep.insert (ek:=ekI) (ev:=evI) (al:=[]) (key:=v) (v:=cO [] (eT to)) (ay (lkG rfl)) (lkG rfl) rfl rfl rfl (Rd.w rfl tI) rfl (Rd.w rfl tI) rfl (Rd.w rfl tI) ?_)|refine rtW ?_)
     all_goals (first|exact dd|skip)
     exact⟨.inr rfl,_,jq o0 o1 o2 o3 l to [(v,cO [] (eT to))],⟨rfl,rfl⟩,rfl,(by show 4≤9;decide),im h4 (nLr _) l to _,rfl,rfl⟩
def rR (l:List Score) (w:Int) (to:Score):PL:=if bL l w<0 then [] else cO [] (hZ (atS l (bL l w).toNat) to (np (dD (aw (atS l (bL l w).toNat) to) (atS l (bL l w).toNat).bars.length to.bars.length)))
def jV (l:List Score) (v0:Int) (to:Score) (w:Int):PL:=if w=v0 then cO [] (eT to) else rR l w to
structure gm (l:List Score) (v0:Int) (to:Score) (al:List (Int×PL)):Prop where
 own:lk al v0=some (cO [] (eT to))
 of:∀w p,lk al w=some p→p=jV l v0 to w
theorem gm.first (l:List Score) (v0:Int) (to:Score):gm l v0 to [(v0,cO [] (eT to))]:=by
 refine⟨by simp[lk],fun w p h=>?_⟩;simp only[lk] at h;split at h
 · rename_i e;cases h;unfold jV;rw[if_pos e.symm]
 · cases h
theorem gm.ins {l:List Score} {v0:Int} {to:Score} {al:List (Int×PL)} (h:gm l v0 to al) {w:Int} (hw:lk al w=none) {p:PL} (hp:p=jV l v0 to w):gm l v0 to (ins al w p):=by
 refine⟨?_,fun u q hq=>?_⟩
 · rw[Go.Proofs.YtmjdoencpjpegaaGreatDoor.fR,if_neg]
   · exact h.own
   · rintro rfl;rw[h.own] at hw;cases hw
 · rw[Go.Proofs.YtmjdoencpjpegaaGreatDoor.fR] at hq;split at hq
   · rename_i e;cases hq;rw[←e];exact hp
   · exact h.of u q hq
def Good (s:Score):Prop:=aQ s=true∧dt s=true
theorem Gi {s to:Score} (hs:Good s) (ht:Good to):sG s to=(qm s to,0):=by
 have h1:=oC hs.2;have h2:=oC ht.2;unfold sG;rw[if_pos ⟨hs.1,ht.1⟩,if_neg (by unfold ql;omega)]
def CX (o0 o1 o2 o3:aF) (l:List Score) (to:Score) (al:List (Int×PL)) (x:aa):aa:=jq o0 o1 o2 o3 l to al++x
def Np (o0 o1 o2 o3:aF) (l:List Score) (v0:Int) (to:Score) (w:Int) (r:AV) (s:aa):Prop :=
 r=.tup [evI (jV l v0 to w),.int 0]∧∃al,gm l v0 to al∧s=jq o0 o1 o2 o3 l to al
theorem Nq {o0 o1 o2 o3:aF} (h:qn o0 o1 o2 o3) {m:Nat} (hm:9≤m) (l:List Score) (to:Score) (al:List (Int×PL)) {x:aa} (hx:x.all (ak m)=true):(CX o0 o1 o2 o3 l to al x).all (ak m)=true:=by
 unfold CX;rw[zBs,im h hm,hx];rfl
theorem Gj {o0 o1 o2 o3:aF} (h4:qn o0 o1 o2 o3) (l:List Score) (hl:l.length≤1000000) (hgd:∀s∈l,Good s) (v0:Int) (to:Score) (hto:Good to) (al:List (Int×PL)) (hm:gm l v0 to al) (w:Int) :
 TCall Tryz.prog 114 [.ptr 8 0,.int w] (jq o0 o1 o2 o3 l to al) (Np o0 o1 o2 o3 l v0 to w):=by
 have h1:=vv _ l oM w (Iv · w);refine TCall.body Tryz.func114 rfl rfl Tryz.ntmps114 rfl rfl ?_
 repeat' (first|refine sqW ?_)
 refine rgK fun U V=>?_
 refine aB ?_;refine qP ?_ (h:=fun hg=>ae);refine qP ?_ (h:=fun hg=>ae);refine aoN (V _ _ ?_);clear V U;show AWP _ _ _ _ _ (CX o0 o1 o2 o3 l to al [.var [.int w]]);refine AWP.ei 9 rfl rfl ?_;refine AWP.dX [(0,.ptr 8 0),(3,.iptr [.int w])] ⟨rfl,rfl,tI⟩ ?_;show AWP _ _ _ _ _ (CX o0 o1 o2 o3 l to al [.dead]);cases hlk:lk al w with
 | some q =>
   have e:=hm.of w q hlk
   repeat' (first|refine qT ?_|apply sqW|refine rgK fun U V=>?_|(refine aN V ?_;clear V U)|refine cX ?_ ?_<;>intro hc<;>try simp only[dE] at hc|refine skW ?_|refine rtW ?_|refine kD fun U V=>?_|(refine aqN (V _ ?_);clear V U)|refine aqQ rfl rfl (fun hg=>by first|exact PRun.o8 (ek:=ekI) (ev:=evI) (zv:=[]) hlk (ay (lkG rfl)) (lkG rfl) (lkG rfl) rfl rfl (Rd.w rfl nd) (Or.inr ⟨_,rfl,rfl⟩) (Rd.w rfl nd) rfl|exact ae|exact ah) (by exact rfl) ?_)
   all_goals (first|exact dd|skip)
   exact⟨.inr rfl,_,jq o0 o1 o2 o3 l to al,⟨by rw[←e];rfl,al,hm,rfl⟩,rfl,nLr _,im h4 (nLr _) l to al,rfl,rfl⟩
 | none =>
   have hne:w≠v0:=by
    rintro rfl;rw[hm.own] at hlk;cases hlk
   have hmf:jV l v0 to w=rR l w to:=if_neg hne;by_cases hf:bL l w<0
   · have e:mb l w=[.int 0,.nils,.nils,.nils]:=if_pos hf;have hmw:rR l w to=[]:=if_pos hf;rw[e,decide_eq_true hf] at h1
     repeat' (first|refine sqW ?_)
     refine kD fun U V=>?_
     repeat' (first|refine qP ?_ (h:=fun hg=>by first|exact ae|exact pc h1|exact ah)|apply sqW|refine rgK fun U V=>?_|(refine aN V ?_;clear V U)|refine aS ?_|refine aA ?_|refine aoE (EStep.cz rfl rfl rfl rfl ?_)|refine cX ?_ ?_<;>intro hc<;>try simp only[dE] at hc|refine skW ?_|refine rtW ?_|(refine aqN (V _ ?_);clear V U)|refine aqQ rfl rfl (fun hg=>by first|exact PRun.o8 (ek:=ekI) (ev:=evI) (zv:=[]) hlk (ay (lkG rfl)) (lkG rfl) (lkG rfl) rfl rfl (Rd.w rfl nd) (Or.inr ⟨_,rfl,rfl⟩) (Rd.w rfl nd) rfl|exact ae|exact ah) (by exact rfl) ?_)
     all_goals (first|exact dd|skip)
     refine AWP.lQ (ek:=ekI) (ev:=AV.int) (al:=[]) (l:=11) rfl nC ?_;refine AWP.dX [(0,.ptr 8 0),(3,.iptr [.int w]),(10,evI [])] ⟨rfl,rfl,rfl,tI⟩ ?_;show AWP _ _ _ _ _ (CX o0 o1 o2 o3 l to al [.dead,.var [.int 0,.nils,.nils,.nils],.dead])
     repeat' (first|refine qS ?_|apply sqW|refine rgK fun U V=>?_|(refine aN V ?_;clear V U)|refine aoE (EStep.dm (ek:=ekI) (ev:=evI) (al:=al) (key:=w) (v:=[]) (ay (lkG rfl)) (lkG rfl) rfl rfl rfl (Rd.w rfl tI) rfl (Rd.w rfl tI) rfl (Rd.w rfl tI) ?_)|refine rtW ?_|refine lD fun U V=>?_|refine aqN ?_|refine aqQ rfl rfl (fun hg=>by first|exact ae|exact ah) (by exact rfl) ?_)
     all_goals (first|exact dd|skip)
     exact⟨.inr rfl,_,jq o0 o1 o2 o3 l to (ins al w []),⟨by rw[hmf,hmw];rfl,_,hm.ins hlk (by rw[hmf,hmw]),rfl⟩,rfl,nLr _,im h4 (nLr _) l to _,rfl,rfl⟩
   · have e:mb l w=encS (atS l (bL l w).toNat):=if_neg hf;rw[e,decide_eq_false hf] at h1;obtain⟨k,hk,hlt,hkv⟩:=iZ hf;have hmw:rR l w to=cO [] (hZ (atS l k) to (np (dD (aw (atS l k) to) (atS l k).bars.length to.bars.length))):=by
      unfold rR;rw[if_neg hf,hk,zAj]
     rw[hk,zAj] at h1;have hgs:=hgd (atS l k) (bT hlt);generalize atS l k=s at *;have ss:=gA hgs.2;have st:=gA hto.2;have ns:=oC hgs.2;have b1:=DX s to ss st;rw[Gi hgs hto] at b1;have lq:=DY (aw s to) s.bars.length to.bars.length;have n1:=Bk s to ss st (qm s to) (by show(dD _ _ _).length≤_;omega);rw[Bn hgs.1 hto.1 rfl] at n1;have ln:(hZ s to (np (dD (aw s to) s.bars.length to.bars.length))).length≤60:=zBu (Ae _ _) ns.2;generalize hZ s to (np (dD (aw s to) s.bars.length to.bars.length))=L at *;generalize qm s to=A at *;dsimp only at b1 n1;clear e lq
     repeat' (first|refine sqW ?_)
     refine kD fun U V=>?_
     repeat' (first|refine qP ?_ (h:=fun hg=>by first|exact ae|exact pc h1|exact ah)|apply sqW|refine rgK fun U V=>?_|(refine aN V ?_;clear V U)|refine aS ?_|refine aA ?_|refine aoE (EStep.cz rfl rfl rfl rfl ?_)|refine cX ?_ ?_<;>intro hc<;>try simp only[dE] at hc|refine skW ?_|refine rtW ?_|(refine aqN (V _ ?_);clear V U)|refine aqQ rfl rfl (fun hg=>by first|exact PRun.o8 (ek:=ekI) (ev:=evI) (zv:=[]) hlk (ay (lkG rfl)) (lkG rfl) (lkG rfl) rfl rfl (Rd.w rfl nd) (Or.inr ⟨_,rfl,rfl⟩) (Rd.w rfl nd) rfl|exact ae|exact ah) (by exact rfl) ?_)
     all_goals (first|exact dd|skip)
     refine AWP.gj dJ (fun j=>match j with|0=>CX o0 o1 o2 o3 l to al [.dead,.var (encS s),.map []]|1=>CX o0 o1 o2 o3 l to al [.dead,.var (encS s),.map [],.var [.nils,.int 0,.nils]]|_=>CX o0 o1 o2 o3 l to al [.dead,.var (encS s),.map [],.var (ma A)]) rfl (by kernel_rfl) dKn rfl dKn (fun U V=>?_)
     repeat' (first
      |refine yt (h:=by refine⟨?_,?_,?_,?_⟩<;>intro hh hg<;>first|exact absurd hh dKn|exact ae|exact pc b1|exact ah|fail) (hk:=?_)|fail)
     refine YQ.e (v:=.ptr 12 0) (d:=some 11) rfl rfl rfl ?_ ?_
     · intro au he;exact alW ab rfl rfl rfl rfl rfl rfl ⟨rfl,rfl⟩
     repeat' (first
      |refine yt (h:=by refine⟨?_,?_,?_,?_⟩<;>intro hh hg<;>first|exact absurd hh dKn|exact ae|exact pc b1|exact ah|fail) (hk:=?_)|fail)
     refine YQ.e (v:=.any) (d:=none) rfl rfl rfl ?_ ?_
     · intro au he;exact stW ab rfl rfl ((ai (he 11 dKn)).trans rfl) (by rw[aj (he 11 dKn)];first|exact tI|exact rfl) rfl ((ai (he 45 dKn)).trans rfl) (by rw[aj (he 45 dKn)];first|exact tI|exact rfl) rfl rfl rfl rfl rfl rfl rfl ⟨rfl,rfl⟩
     repeat' (first
      |refine yt (hk:=?_)|fail)
     refine YQ.nil (V _ _ ?_);clear V U;show AWP _ _ _ _ _ (CX o0 o1 o2 o3 l to al [.dead,.var (encS s),.map [],.var (ma A)])
     repeat' (first|refine qT ?_|apply sqW|refine rgK fun U V=>?_|(refine aN V ?_;clear V U)|refine cX ?_ ?_<;>intro hc<;>try simp only[dE] at hc|refine blK ?_|refine skW ?_|refine rtW ?_|refine kD fun U V=>?_|(refine aqN (V _ ?_);clear V U)|refine aqQ rfl rfl (fun hg=>by first|exact ae|exact pc n1|exact ah) (by exact rfl) ?_)
     all_goals (first|exact dd|skip)
     refine lpD (ι:=Nat) (fun k=>[(0,.ptr 8 0),(3,.iptr [.int w]),(10,.map 11),(63,.sl 2 (L.map bz) .no),(64,.int L.length),(65,.int k)]) (fun k=>CX o0 o1 o2 o3 l to al [.dead,.var (encS s),.map (Go.Ab.aD ekI AV.int (cO [] (L.take k))),.var (ma A)])
      (fun k=>k≤L.length) (fun k=>L.length - k) 13 (fun _=>rfl) 0 (nZl _) ⟨rfl,rfl,rfl,rfl,rfl,rfl,tI⟩ rfl (fun _ _=>rfl) (fun k _=>Nq h4 dCd l to al (by simp only[zAq,zAu,Ce];rfl)) ?_
     intro k hk;by_cases hlt:k<L.length
     · obtain⟨z,hz⟩:∃z,L.getD k default=z:=⟨_,rfl⟩
       have hsu:cO [] (L.take (k+1))=ins (cO [] (L.take k)) z.1 z.2:=by rw[jK hlt,hz];exact xq _ _ _
       repeat' (first|refine qP ?_ (h:=fun hg=>by first|exact iX bz L (((k):Nat):Int) hz (hb:=oM)|exact ae|exact ah)|apply sqW|refine rgK fun U V=>?_|(refine aN V ?_;clear V U)|refine aS ?_|refine aA ?_|refine aoE (EStep.dm (ek:=ekI) (ev:=AV.int) (al:=cO [] (L.take k)) (key:=z.1) (v:=z.2) (ay (lkG rfl)) (lkG rfl) rfl rfl rfl (Rd.w rfl tI) rfl (Rd.w rfl tI) rfl (Rd.w rfl tI) ?_)|refine cX ?_ ?_<;>intro hc<;>try simp only[dE] at hc|refine blK ?_|refine exW ?_|refine skW ?_|refine lD fun U V=>?_|refine aqN ?_|refine aqQ rfl rfl (fun hg=>by first|exact ae|exact ah) (by exact rfl) ?_)
       all_goals (first|exact dd|skip)
       exact⟨k+1,hlt,by show L.length - (k+1)<L.length - k;omega,⟨rfl,rfl,rfl,rfl,rfl,rfl,tI⟩,by show _=CX o0 o1 o2 o3 l to al [.dead,.var (encS s),.map (Go.Ab.aD ekI AV.int (cO [] (L.take (k+1)))),.var (ma A)];rw[hsu];rfl⟩
     · obtain rfl:k=L.length:=oM;rw[zB2]
       repeat' (first|refine qS ?_|apply sqW|refine rgK fun U V=>?_|(refine aN V ?_;clear V U))
       refine cdW rfl tI (fun hc=>?_) (fun hc=>?_)
       · exfalso;simp at hc
       refine exW ?_;show AWP _ _ _ _ _ (CX o0 o1 o2 o3 l to al [.dead,.var (encS s),.map (Go.Ab.aD ekI AV.int (cO [] L)),.var (ma A)]);refine AWP.lQ (ek:=ekI) (ev:=AV.int) (al:=cO [] L) (l:=11) rfl nC ?_;refine AWP.dX [(0,.ptr 8 0),(3,.iptr [.int w]),(10,evI (cO [] L))] ⟨rfl,rfl,rfl,tI⟩ ?_;show AWP _ _ _ _ _ (CX o0 o1 o2 o3 l to al [.dead,.var (encS s),.dead,.var (ma A)])
       repeat' (first|refine qS ?_|apply sqW|refine rgK fun U V=>?_|(refine aN V ?_;clear V U)|refine aoE (EStep.dm (ek:=ekI) (ev:=evI) (al:=al) (key:=w) (v:=cO [] L) (ay (lkG rfl)) (lkG rfl) rfl rfl rfl (Rd.w rfl tI) rfl (Rd.w rfl tI) rfl (Rd.w rfl tI) ?_)|refine rtW ?_|refine lD fun U V=>?_|refine aqN ?_|refine aqQ rfl rfl (fun hg=>by first|exact ae|exact ah) (by exact rfl) ?_)
       all_goals (first|exact dd|skip)
       exact⟨.inr rfl,_,jq o0 o1 o2 o3 l to (ins al w (cO [] L)),⟨by rw[hmf,hmw];rfl,_,hm.ins hlk (by rw[hmf,hmw]),rfl⟩,rfl,nLr _,im h4 (nLr _) l to _,rfl,rfl⟩
end Go.Proofs.YtmjdoencpjpegaaGreatDoor.Cy
namespace Go.Proofs.YtmjdoencpjpegaaGreatDoor.Cy
open Go.Ab Go.Sort Al Mk
attribute [local irreducible] AWP AOps EStep AQ PStep PRun PCall TCall VCall
def bH (l:List Score) (v0:Int) (to:Score) (m:Jo.Mark):Option Jo.Mark:=(lk (jV l v0 to m.version) m.note).map fun n=>{ m with version:=to.version,note:=n }
def DZ (r:Option Jo.Mark) (e:Int):AV:=.tup [.agg (aJ (r.getD Jo.noMark)),.b r.isSome,.int e]
def Mm (o0 o1 o2 o3:aF) (l:List Score) (v0:Int) (to:Score) (m:Jo.Mark) (r:AV) (s:aa):Prop :=
 r=DZ (bH l v0 to m) 0∧∃al,gm l v0 to al∧s=jq o0 o1 o2 o3 l to al
def Gk:List AV:=[.int 0,.int 0,.int 0,.int 0,.int 0,.int 0,.int 0,.int 0,.int 0,.bs []]
theorem vw {o0 o1 o2 o3:aF} (h4:qn o0 o1 o2 o3) (l:List Score) (hl:l.length≤1000000) (hgd:∀s∈l,Good s) (v0:Int) (to:Score) (hto:Good to) (al:List (Int×PL)) (hm:gm l v0 to al) (m:Jo.Mark) :
 TCall Tryz.prog 62 [.ptr 8 0,.agg (aJ m)] (jq o0 o1 o2 o3 l to al) (Mm o0 o1 o2 o3 l v0 to m):=by
 have hv:=TCall.val (first:=[]) (aM:=[]) (avs:=[.ptr 8 0,.int m.version]) (TCall.frame (Gj h4 l hl hgd v0 to hto al hm m.version) [.var (aJ m),.var Gk] (im h4 (nLr _) l to al) rfl (fun rv s h=>by obtain⟨_,al',_,h⟩:=h;rw[h];rfl));refine TCall.bO ab Tryz.func62 rfl rfl Tryz.ntmps62 rfl ?_
 repeat' (first|refine qS ?_|apply sqW|refine rgK fun U V=>?_|(refine aN V ?_;clear V U)|refine aB ?_|refine aA ?_|refine aoE (scT (hv) rfl rfl rfl rfl rfl nd rfl rfl nds ?_))
 rintro _ _ ⟨σ',rfl,rfl,al2,hm2,rfl⟩;clear hv;cases hlk:lk (jV l v0 to m.version) m.note with
 | none =>
   have hc0:bH l v0 to m=none:=by unfold bH;rw[hlk];rfl
   generalize jV l v0 to m.version=p at *
   repeat' (first|refine qP ?_ (h:=fun hg=>by first|exact PRun.o8 (ek:=ekI) (ev:=AV.int) (zv:=0) hlk (ay (lkG rfl)) (lkG rfl) (lkG rfl) rfl rfl (Rd.w rfl nd) (Or.inl rfl) (Rd.w rfl nd) rfl|exact ae|exact pbD ab rfl rfl nds|exact ah)|apply sqW|refine rgK fun U V=>?_|(refine aN V ?_;clear V U)|refine aS ?_|refine cX ?_ ?_<;>intro hc<;>try simp only[dE] at hc|refine skW ?_|refine rtW ?_)
   all_goals (first|exact dd|skip)
   exact⟨.inr rfl,_,_,jq o0 o1 o2 o3 l to al2,⟨rfl,al2,hm2,rfl⟩,rfl,nLr _,im h4 (nLr _) l to al2,rfl,by rw[hc0];exact Ent.of rfl⟩
 | some n =>
   have hc0:bH l v0 to m=some { m with version:=to.version,note:=n }:=by unfold bH;rw[hlk];rfl
   generalize jV l v0 to m.version=p at *
   repeat' (first|refine qP ?_ (h:=fun hg=>by first|exact PRun.o8 (ek:=ekI) (ev:=AV.int) (zv:=0) hlk (ay (lkG rfl)) (lkG rfl) (lkG rfl) rfl rfl (Rd.w rfl nd) (Or.inl rfl) (Rd.w rfl nd) rfl|exact ae|exact ah)|apply sqW|refine rgK fun U V=>?_|(refine aN V ?_;clear V U)|refine aS ?_|refine cX ?_ ?_<;>intro hc<;>try simp only[dE] at hc|refine skW ?_|refine rtW ?_)
   all_goals (first|exact dd|skip)
   exact⟨.inr rfl,_,_,jq o0 o1 o2 o3 l to al2,⟨rfl,al2,hm2,rfl⟩,rfl,nLr _,im h4 (nLr _) l to al2,rfl,by rw[hc0];exact Ent.of rfl⟩
end Go.Proofs.YtmjdoencpjpegaaGreatDoor.Cy
