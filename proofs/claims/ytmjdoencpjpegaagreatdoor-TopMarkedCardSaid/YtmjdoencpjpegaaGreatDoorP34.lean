/- Parts of the proof. No statement is proved here. -/
import Derived.Test.YtmjdoencpjpegaaGreatDoorP27
import Derived.Test.YtmjdoencpjpegaaGreatDoorP29
import Derived.Test.YtmjdoencpjpegaaGreatDoorP30
import Derived.Test.YtmjdoencpjpegaaGreatDoorP31
set_option linter.unusedVariables false
set_option linter.unusedSimpArgs false
set_option maxHeartbeats 16000000
set_option maxRecDepth 20000
namespace Go.Proofs.YtmjdoencpjpegaaGreatDoor.Al
open Go.Ab Go.Sort
attribute [local irreducible] AWP AOps EStep AQ PStep PRun PCall TCall VCall
structure nr where
 pairs:PL
 cost:Int
 table:List (List Int)
 deriving Inhabited
def ma (x:nr):List AV:=[.sl 2 (x.pairs.map bz) .no,.int x.cost,.sl 1 (x.table.map cG) .no]
structure nr.uT (x:nr):Prop where
 pairs:x.pairs.length≤9223372036854775807
 table:x.table.length≤9223372036854775807
 rows:∀r∈x.table,r.length≤9223372036854775807
theorem Bg (x y:ag):PCall Tryz.prog 204 [.agg (ar x),.agg (ar y)] (.b (f1 x y)):=by
 refine PCall.body Tryz.func204 rfl rfl Tryz.ntmps204 rfl rfl ?_
 repeat' (first|refine qS ?_|apply sqW|refine rgK fun U V=>?_|(refine aN V ?_;clear V U)|refine aB ?_|refine rtW ?_)
 exact⟨.inr rfl,Ent.b rfl⟩
theorem Bh (x y:ag):PCall Tryz.prog 205 [.agg (ar x),.agg (ar y)] (.b (f2 x y)):=by
 refine PCall.body Tryz.func205 rfl rfl Tryz.ntmps205 rfl rfl ?_
 repeat' (first|refine qS ?_|apply sqW|refine rgK fun U V=>?_|(refine aN V ?_;clear V U)|refine aB ?_|refine rtW ?_|refine kD fun U V=>?_|(refine aqN (V _ ?_);clear V U)|refine aqQ rfl rfl (fun hg=>by first|exact ae|exact pc (rq x)|exact pc (rq y)|exact PRun.eqN flN rfl rfl nd rfl nd rfl|exact ah) (by exact rfl) ?_)
 exact⟨.inr rfl,Ent.b (by unfold f2 alike;exact v8 _ _)⟩
theorem Bi (x y:ag):PCall Tryz.prog 207 [.agg (ar x),.agg (ar y)] (.b (f3 x y)):=by
 refine PCall.body Tryz.func207 rfl rfl Tryz.ntmps207 rfl rfl ?_
 repeat' (first|refine qP ?_ (h:=fun hg=>by first|exact ae|exact PRun.eqN Jq rfl rfl nd rfl nd rfl|exact ah)|apply sqW|refine rgK fun U V=>?_|(refine aN V ?_;clear V U)|refine aB ?_|refine rtW ?_)
 refine⟨.inr rfl,Ent.b ?_⟩;unfold f3;rw[←B6];simp only[Bool.and_assoc];rfl
def iV (ps:PL) (l:List ag):PL:=l.filterMap fun n=>(lk ps n.id).map fun y=>(n.id,y)
theorem Is {ps:PL} {l:List ag} {k:Nat} (h:k<l.length) {n:ag} (hn:l.getD k default=n) {v:Int} (hv:lk ps n.id=some v):iV ps (l.take (k+1))=iV ps (l.take k)++[(n.id,v)]:=by
 unfold iV;rw[jK h,hn,zCl];simp[hv]
theorem K4 {ps:PL} {l:List ag} {k:Nat} (h:k<l.length) {n:ag} (hn:l.getD k default=n) (hv:lk ps n.id=none):iV ps (l.take (k+1))=iV ps (l.take k):=by
 unfold iV;rw[jK h,hn,zCl];simp[hv]
theorem Ae (ps:PL) (l:List ag):(iV ps l).length≤l.length:=zD8 _ _
def jG (a b:Score) (x:nr):PL×Int:=if aQ a&&(aQ b&&pOk a.bars.length b.bars.length (-1) (-1) x.pairs) then (hZ a b (np x.pairs),0) else ([],1)
def pOf (a b:Score) (x:nr) (al:NL):Nat→aF:=fun i=>(cM (.var (encS a)) (.var (encS b)) (.var (ma x)) a b al []).getD i .dead
theorem vu (a b:Score) (x:nr) (al:NL):qf (pOf a b x al):=fun i m hm=>by
 have h:=cT (o0:=.var (encS a)) (o1:=.var (encS b)) (o2:=.var (ma x)) (fun _=>⟨rfl,rfl,rfl⟩) hm a b al [];rw[zA6] at h;unfold pOf;rw[zB5];cases hh:(cM (.var (encS a)) (.var (encS b)) (.var (ma x)) a b al [])[i]? with
 |none=>rfl
 |some v=>exact h v (zAe hh)
theorem Bj (a b:Score) {l:PL} {k:Nat} (h:k<l.length) {z:Int×Int} (hz:l.getD k default=z):hU a b (np (l.take (k+1))) []=three (bq a (bJ a z.1.toNat).id) (bq b (bJ b z.2.toNat).id) (hU a b (np (l.take k)) []):=by
 rw[jK h,hz];unfold hU np;rw[zAz,zC6];rfl
theorem Bk (a b:Score) (ha:a.Small) (hb:b.Small) (x:nr) (hx:x.pairs.length≤1000000) :
 PCall Tryz.prog 170 [.agg (encS a),.agg (encS b),.agg (ma x)] (.tup [.sl 2 ((jG a b x).1.map bz) .no,.int (jG a b x).2]):=by
 have h3:nS (.var (encS a)) (.var (encS b)) (.var (ma x)):=fun _=>⟨rfl,rfl,rfl⟩
 have hv0:=TCall.val (first:=[]) (aM:=[]) (avs:=[.agg (encS a),.agg (encS b)]) (rH h3 a b ha hb);have hp1:=fun u v=>xJ a b u v ha hb x.pairs hx
 refine PCall.body Tryz.func170 rfl rfl Tryz.ntmps170 rfl rfl ?_
 repeat' (first|refine qS ?_|apply sqW|refine rgK fun U V=>?_|(refine aN V ?_;clear V U)|refine aB ?_|refine aoE (scT (hv0) rfl rfl rfl rfl rfl nd rfl rfl nds ?_))
 intro r s hr;unfold npR at hr;split at hr
 · rename_i hok;obtain⟨rfl,al,hg,rfl⟩:=hr;simp only[zA0] at hok;cases hpk:pOk a.bars.length b.bars.length (-1) (-1) x.pairs with
   | false =>
     rw[hpk] at hp1
     repeat' (first|refine qP ?_ (h:=fun hg=>by first|exact ae|exact pbW (hp1 _ _) rfl rfl nd rfl rfl nds|exact ah)|apply sqW|refine rgK fun U V=>?_|(refine aN V ?_;clear V U)|refine cX ?_ ?_<;>intro hc<;>try simp only[dE] at hc|refine skW ?_|refine rtW ?_)
     all_goals (first|exact dd|skip)
     have hR:jG a b x=([],1):=by unfold jG;rw[hpk];simp
     rw[hR];exact⟨.inr rfl,Ent.fL Ent.nil (Ent.cB _)⟩
   | true =>
     rw[hpk] at hp1;have hR:jG a b x=(hZ a b (np x.pairs),0):=by unfold jG;rw[hok.1,hok.2,hpk];rfl
     have hps:=tG oM oM hpk;have hsa:=x6 hok.1;have hna:=vj hok.1;have hnb:=vj hok.2;have ha3:=hna.len
     repeat' (first|refine qP ?_ (h:=fun hg=>by first|exact ae|exact pbW (hp1 _ _) rfl rfl nd rfl rfl nds|exact ah)|apply sqW|refine rgK fun U V=>?_|(refine aN V ?_;clear V U)|refine aoE (EStep.cz rfl rfl rfl rfl ?_)|refine cX ?_ ?_<;>intro hc<;>try simp only[dE] at hc|refine blK ?_|refine skW ?_|refine rtW ?_)
     all_goals (first|exact dd|skip)
     rw[hR];clear hp1 hc;refine lpD (ι:=Nat) (fun k=>[(3,.ptr 0 0),(4,.ptr 1 0),(8,.ptr 7 0),(10,.map 8),(11,.map 9),(39,.sl 2 (x.pairs.map bz) .no),(40,.int x.pairs.length),(41,.int k)]) (fun k=>MB (pOf a b x al) (hU a b (np (x.pairs.take k)) [])) (fun k=>k≤x.pairs.length) (fun k=>x.pairs.length - k) 10 (fun _=>rfl) 0 (nZl _) ⟨rfl,rfl,rfl,rfl,rfl,rfl,rfl,rfl,tI⟩ rfl (fun _ _=>rfl) (fun k _=>x8 (vu a b x al) (nLr _) _) ?_;intro k hk;by_cases hlt:k<x.pairs.length
     · obtain⟨z,hz⟩:∃z,x.pairs.getD k default=z:=⟨_,rfl⟩
       have hzm:z∈x.pairs:=by rw[←hz,aU hlt];exact lGm hlt
       obtain⟨z1,z2,z3,z4⟩:=hps.2 (z.1.toNat,z.2.toNat) (zAf.2 ⟨z,hzm,rfl⟩);have hzp:0≤z.1∧0≤z.2:=by
        have h5:=Jm oM oM hpk;have h6:z∈ip (np x.pairs):=by rw[h5];exact hzm
        obtain⟨q,_,rfl⟩:=zAf.1 h6;exact⟨zD7 _,zD7 _⟩
       dsimp only at z3 z4;have n1:AV.int z.1=AV.int ((z.1.toNat:Nat):Int):=congrArg AV.int oM;have n2:AV.int z.2=AV.int ((z.2.toNat:Nat):Int):=congrArg AV.int oM;have hst:=Bj a b hlt hz;obtain⟨u,hu⟩:∃u,bJ a z.1.toNat=u:=⟨_,rfl⟩
       obtain⟨v,hv⟩:∃v,bJ b z.2.toNat=v:=⟨_,rfl⟩
       have gx:=(hg u.id).1;have gy:=(hg v.id).2;rw[hu,hv] at hst;have lx:=(hna.bq u.id).1;have ly:=(hnb.bq v.id).1;have hnd:=oq hsa.notes u.id;generalize hU a b (np (x.pairs.take k)) []=q at *;have hM:=fun (f:ag→ag→Bool) (g:Nat) (hf:∀x y,PCall Tryz.prog g [.agg (ar x),.agg (ar y)] (.b (f x y))) (q:PL)=>TCall.val (first:=[]) (aM:=[]) (avs:=[.sl 12 ((bq a u.id).map ar) .no,.sl 12 ((bq b v.id).map ar) .no,.map 8,.map 9,.fn (.func g) [] []]) (TCall.frame (DJ (vu a b x al) hf (bq a u.id) (bq b v.id) oM oM hnd q) [.var (bz z)] (x8 (vu a b x al) (nLr _) _) rfl (fun rv s h=>by rw[h.2];rfl))
       have m1:=hM f1 _ Bg q;have m2:=hM f2 _ Bh (cj f1 (bq a u.id) (bq b v.id) q);have m3:=hM f3 _ Bi (cj f2 (bq a u.id) (bq b v.id) (cj f1 (bq a u.id) (bq b v.id) q));clear hM
       repeat' (first|refine qP ?_ (h:=fun hg=>by first|exact iX bz x.pairs ((k:Nat):Int) hz (hb:=oM)|exact ae|exact ah)|apply sqW|refine rgK fun U V=>?_|(refine aN V ?_;clear V U)|refine aS ?_|refine aA ?_|refine aoE (scT (m1) rfl rfl rfl rfl rfl nd rfl rfl nds ?_)|refine cX ?_ ?_<;>intro hc<;>try simp only[dE] at hc|refine blK ?_|refine exW ?_|refine skW ?_|refine kD fun U V=>?_|(refine aqN (V _ ?_);clear V U)|refine aqQ rfl rfl (fun hg=>by first|exact PRun.eq (PRun.sB (ek:=ekP) (sz:=12) (f:=ar) (al:=al) (key:=((1:Int),v.id)) mV (lkG rfl) (lkG rfl) rfl rfl (Rd.w rfl nd) (Or.inr ⟨_,rfl,rfl⟩) (Rd.w rfl nd) rfl) (show AV.sl 12 (((lk al ((1:Int),v.id)).getD []).map ar) .no=AV.sl 12 ((bq b v.id).map ar) .no by rw[gy])|exact PRun.eq (PRun.sB (ek:=ekP) (sz:=12) (f:=ar) (al:=al) (key:=((0:Int),u.id)) mV (lkG rfl) (lkG rfl) rfl rfl (Rd.w rfl nd) (Or.inr ⟨_,rfl,rfl⟩) (Rd.w rfl nd) rfl) (show AV.sl 12 (((lk al ((0:Int),u.id)).getD []).map ar) .no=AV.sl 12 ((bq a u.id).map ar) .no by rw[gx])|exact iX bD b.bars ((z.2.toNat:Nat):Int) hv (hb:=oM)|exact iX bD a.bars ((z.1.toNat:Nat):Int) hu (hb:=oM)|exact PRun.eq (v:=.int z.2) (PRun.step ab rfl sd) n2|exact PRun.eq (v:=.int z.1) (PRun.step ab rfl sd) n1|exact ae|exact PRun.gL ab rfl rfl nds|exact ah) (by exact rfl) ?_)
       all_goals (first|exact dd|skip)
       rintro _ _ ⟨σ',rfl,rfl,rfl⟩;clear m1
       repeat' (first|refine qS ?_|apply sqW|refine rgK fun U V=>?_|(refine aN V ?_;clear V U)|refine aoE (scT (m2) rfl rfl rfl rfl rfl nd rfl rfl nds ?_))
       rintro _ _ ⟨σ',rfl,rfl,rfl⟩;clear m2
       repeat' (first|refine qS ?_|refine rgK fun U V=>?_|(refine aN V ?_;clear V U)|refine aoE (scT (m3) rfl rfl rfl rfl rfl nd rfl rfl nds ?_))
       rintro _ _ ⟨σ',rfl,rfl,rfl⟩;clear m3
       repeat' (first|refine qS ?_|refine rgK fun U V=>?_|(refine aN V ?_;clear V U))
       exact⟨k+1,hlt,oM,⟨rfl,rfl,rfl,rfl,rfl,rfl,rfl,rfl,tI⟩,by show _=MB _ (hU a b (np (x.pairs.take (k+1))) []);rw[hst];rfl⟩
     · obtain rfl:k=x.pairs.length:=oM;rw[zB2]
       repeat' (first|refine qT ?_|apply sqW|refine rgK fun U V=>?_|(refine aN V ?_;clear V U)|refine aS ?_|refine aA ?_|refine cX ?_ ?_<;>intro hc<;>try simp only[dE] at hc|refine blK ?_|refine exW ?_|refine skW ?_|refine kD fun U V=>?_|refine aqQ rfl rfl (fun hg=>by first|exact ae|exact ah) (by exact rfl) ?_)
       all_goals (first|exact dd|skip)
       have hM:hZ a b (np x.pairs)=iV (hU a b (np x.pairs) []) a.notes:=rfl;rw[hM];generalize hU a b (np x.pairs) []=q;clear hps hM hR hpk;refine AWP.fX (d:=16) (sz:=2) rfl ?_;refine lpD (ι:=Nat) (fun k=>[(10,.map 8),(16,.sl 2 ((iV q (a.notes.take k)).map bz) (.own 10)),(88,.sl 12 (a.notes.map ar) .no),(89,.int a.notes.length),(90,.int k)]) (fun k=>MB (pOf a b x al) q++[.own 2 ((iV q (a.notes.take k)).map bz).length]) (fun k=>k≤a.notes.length) (fun k=>a.notes.length - k) 11 (fun _=>rfl) 0 (nZl _) ⟨rfl,rfl,rfl,rfl,rfl,tI⟩ rfl (fun _ _=>rfl) (fun k _=>by rw[vp];exact x8 (vu a b x al) dCd _) ?_;intro k hk;have hlo:=Ae q (a.notes.take k);rw[zAg] at hlo;by_cases hlt:k<a.notes.length
       · obtain⟨n,hn⟩:∃n,a.notes.getD k default=n:=⟨_,rfl⟩
         cases hl:lk q n.id with
         | none =>
           have ho:=K4 hlt hn hl
           repeat' (first|refine qP ?_ (h:=fun hg=>by first|exact PRun.eq (v:=.tup [.int ((lk q n.id).getD 0),.b (lk q n.id).isSome]) (PRun.lookup (ok:=true) (ek:=ekI) (ev:=AV.int) (al:=q) (key:=n.id) (zv:=0) (ay (lkG rfl)) (lkG rfl) (lkG rfl) rfl rfl (Rd.w rfl nd) (Or.inr ⟨_,rfl,rfl⟩) (Rd.w rfl nd) rfl) (show AV.tup [.int ((lk q n.id).getD 0),.b (lk q n.id).isSome]=AV.tup [.int 0,.b false] by rw[hl];rfl)|exact iX ar a.notes ((k:Nat):Int) hn (hb:=oM)|exact ae|exact ah)|apply sqW|refine rgK fun U V=>?_|(refine aN V ?_;clear V U)|refine aS ?_|refine aA ?_|refine cX ?_ ?_<;>intro hc<;>try simp only[dE] at hc|refine blK ?_|refine exW ?_|refine skW ?_|refine rtW ?_)
           all_goals (first|exact dd|skip)
           exact⟨k+1,hlt,oM,⟨rfl,by rw[ho];rfl,rfl,rfl,rfl,tI⟩,by show _=_++[aF.own 2 ((iV q (a.notes.take (k+1))).map bz).length];rw[ho];rfl⟩
         | some w =>
           have ho:=Is hlt hn hl;have hom2:(List.map bz (iV q (a.notes.take k))++[[AV.int n.id,AV.int w]]).length=(List.map bz (iV q (a.notes.take k))).length+1:=by rw[lLa];rfl
           have hom:((iV q (a.notes.take k))++[(n.id,w)]).map bz=(iV q (a.notes.take k)).map bz++[[AV.int n.id,AV.int w]]:=by rw[zAz];rfl
           repeat' (first|refine qP ?_ (h:=fun hg=>by first|exact PRun.eq (v:=.tup [.int ((lk q n.id).getD 0),.b (lk q n.id).isSome]) (PRun.lookup (ok:=true) (ek:=ekI) (ev:=AV.int) (al:=q) (key:=n.id) (zv:=0) (ay (lkG rfl)) (lkG rfl) (lkG rfl) rfl rfl (Rd.w rfl nd) (Or.inr ⟨_,rfl,rfl⟩) (Rd.w rfl nd) rfl) (show AV.tup [.int ((lk q n.id).getD 0),.b (lk q n.id).isSome]=AV.tup [.int w,.b true] by rw[hl];rfl)|exact iX ar a.notes ((k:Nat):Int) hn (hb:=oM)|exact ae|exact pbD ab rfl rfl nds|exact pbS ab rfl rfl nds|exact ah)|apply sqW|refine rgK fun U V=>?_|(refine aN V ?_;clear V U)|refine aS ?_|refine aA ?_|refine aoE (EStep.qN ab rfl rfl rfl dCd (Rd.w rfl tI) rfl (Rd.w rfl tI) (.sl rfl (by first|(intro x hx;rcases zA9.1 hx with rfl;rfl)|exact one_by8 _|exact one_ints _)) (lkG rfl) (lkG rfl) rfl rfl (by simp only[lLm,lLa,zAc,zAi];omega) (by simp only[lLm,lLa,zAc,zAi];omega) ?_)|refine cX ?_ ?_<;>intro hc<;>try simp only[dE] at hc|refine blK ?_|refine exW ?_|refine skW ?_|refine rtW ?_)
           all_goals (first|exact dd|skip)
           exact⟨k+1,hlt,oM,⟨rfl,by rw[ho,hom];rfl,rfl,rfl,rfl,tI⟩,by show _=_++[aF.own 2 ((iV q (a.notes.take (k+1))).map bz).length];rw[ho,hom,hom2];rfl⟩
       · obtain rfl:k=a.notes.length:=oM;rw[zB2]
         repeat' (first|refine qT ?_|apply sqW|refine rgK fun U V=>?_|(refine aN V ?_;clear V U)|refine aS ?_|refine aA ?_|refine cX ?_ ?_<;>intro hc<;>try simp only[dE] at hc|refine blK ?_|refine exW ?_|refine skW ?_|refine rtW ?_)
         all_goals (first|exact dd|skip)
         exact⟨.inr rfl,Ent.of rfl⟩
 · rename_i hok;obtain⟨rfl,rfl⟩:=hr
   repeat' (first|refine qP ?_ (h:=fun hg=>by first|exact ae|exact(Bool.noConfusion (show false=true from hg):PRun _ _ _ _ (.b false))|exact ah)|apply sqW|refine rgK fun U V=>?_|(refine aN V ?_;clear V U)|refine cX ?_ ?_<;>intro hc<;>try simp only[dE] at hc|refine skW ?_|refine rtW ?_)
   all_goals (first|exact dd|skip)
   have hR:jG a b x=([],1):=by
    unfold jG;rw[if_neg (fun h=>hok (by simp only[zA0] at h ⊢;exact⟨h.1,h.2.1⟩))]
   rw[hR];exact⟨.inr rfl,Ent.fL Ent.nil (Ent.cB _)⟩
end Go.Proofs.YtmjdoencpjpegaaGreatDoor.Al
namespace Go.Ab
open Go.ChangeShapes Go.WideShapes
section
variable {H:Type} {enc:TypeId×Value→H} {P:Program} {w:World} {base:Nat} {held:Bool} {spare:Nat→Bool}
theorem eC {α:Type} [Inhabited α] (f:α→List AV) (tj:α→Prop) {t e:TypeId} {sz fuel:Nat} {v:Value} {x:DataW H×List MemPlace} (ht:P.underlying t=some (.slice e)) (hsz:P.cellsOf e=sz) (cC:0<sz)
 (elem:∀(n:Nat) (cs:List Value) (y:DataW H×List MemPlace),DataW.trod enc P w base spare held n e cs=some y→∃a:α,(f a).length=sz∧(∀(j:Nat) c,(f a)[j]? = some c→af (bR w) [] c (cs.getD j undef))∧tj a)
 (h:DataW.trod enc P w base spare held fuel t [v]=some x):∃al:List α,af (bR w) [] (.sl sz (al.map f) .no) v∧al.length≤maxLen∧∀a∈al,tj a:=by
 have h0:=h;rcases Deep.open_slice ht h with ⟨hc,_⟩|⟨a,len,cap,m,n,D,Pl,hc,_,hl,hm,hmm,_,hx⟩
 · simp at hc;subst hc;exact⟨[],.slz sz .no trivial,by simp,fun a ha=>by simp at ha⟩
 · simp only[List.cons.injEq,and_true] at hc;subst hc;cases len with
   |zero=>exact⟨[],.slzz sz (some a) cap,by simp,fun a ha=>by simp at ha⟩
   | succ len =>
     refine Et f tj ht hsz cC elem (fun a' HK dW e=>?_) h0;cases e;have hle:0<m:=by rw[hmm];split<;>omega
     obtain⟨cs',h1,_⟩:=hx 0 hle;rw[hsz] at h1;obtain⟨_,_,h5⟩:=World.cells?_some h1;have h6:=h5 0 cC;obtain⟨b,off,sp⟩:=a;have e0:(⟨b,off,sp⟩:Addr).add (0 * sz)=⟨b,off,sp⟩:=by rw[zDl];rfl
     have e1:(⟨b,off,sp⟩:Addr).add 0=⟨b,off,sp⟩:=rfl;rw[e0,e1] at h6;cases h7:cs'[0]? with
     | none =>
       have h8:=List.getElem?_eq_none_iff.1 h7;omega
     | some v =>
       rw[h7] at h6;exact World.cell?_spot h6
end
end Go.Ab
namespace Go.Proofs.YtmjdoencpjpegaaGreatDoor.Al
open Go.Ab Go.ChangeShapes Go.WideShapes
section
variable {H:Type} {enc:TypeId×Value→H} {W:World} {base b0 fuel:Nat} {held:Bool} {spare:Nat→Bool}
end
end Go.Proofs.YtmjdoencpjpegaaGreatDoor.Al
namespace Go.Proofs.YtmjdoencpjpegaaGreatDoor.Al
open Go.Ab Go.Sort
attribute [local irreducible] AWP AOps EStep AQ PStep PRun PCall TCall VCall
def dt (s:Score):Bool:=decide ((s.bars.length:Int)≤12)&&decide ((s.parts.length:Int)≤70)&&decide ((s.notes.length:Int)≤60)
theorem gA {s:Score} (h:dt s=true):s.Small:=by
 unfold dt at h;simp only[zA0,dEt] at h;exact⟨oM,oM,oM⟩
theorem DR (s:Score) (hs:s.uT):PCall Tryz.prog 36 [.agg (encS s)] (.b (dt s)):=by
 obtain⟨h1,h2,h3⟩:=hs;refine PCall.body Tryz.func36 rfl rfl Tryz.ntmps36 rfl rfl ?_
 repeat' (first|refine qT ?_|apply sqW|refine rgK fun U V=>?_|(refine aN V ?_;clear V U)|refine aB ?_|refine rtW ?_)
 exact⟨.inr rfl,Ent.b rfl⟩
end Go.Proofs.YtmjdoencpjpegaaGreatDoor.Al
namespace Go.Ab
end Go.Ab
namespace Go.Proofs.YtmjdoencpjpegaaGreatDoor.Cy
open Go.Ab Go.Sort Al
attribute [local irreducible] AWP AOps EStep AQ PStep PRun PCall TCall VCall
def atS (l:List Score) (k:Nat):Score:=l.getD k default
def bL (l:List Score) (v:Int):Int:=aX (fun s:Score=>s.version==v) l
def iH (n:Int):Bool:=decide (1≤n)&&decide (n≤1000000)
def kR (l:List Score) (k:Nat):Bool:=aQ (atS l k)&&(k==0||decide ((atS l (k - 1)).version<(atS l k).version))
def cW (l:List Score):Bool:=(decide ((l.length:Int)≥1)&&decide ((l.length:Int)≤100))&&(List.range l.length).all (kR l)
theorem Cd {l:List Score} {k:Nat} (hk:k<l.length) (h:kR l k=false):cW l=false:=by
 unfold cW;have:(List.range l.length).all (kR l)=false:=by
  rw[zE0];exact⟨k,zBk.2 hk,by rw[h];decide⟩
 rw[this,Bool.and_false]
theorem It {l:List Score} (h:∀k,k<l.length→kR l k=true):cW l=(decide ((l.length:Int)≥1)&&decide ((l.length:Int)≤100)):=by
 unfold cW;rw[zA6.2 fun k hk=>h k (zBk.1 hk),zC2]
theorem qB (n:Int):PCall Tryz.prog 58 [.int n] (.b (iH n)):=by
 refine PCall.body Tryz.func58 rfl rfl Tryz.ntmps58 rfl rfl ?_
 repeat' (first|refine qS ?_|apply sqW|refine rgK fun U V=>?_|(refine aN V ?_;clear V U)|refine rtW ?_)
 exact⟨.inr rfl,Ent.b rfl⟩
theorem Iu (s:Score) (v:Int):PCall Tryz.prog 113 [.agg (encS s),.iptr [.int v]] (.b (s.version==v)):=by
 refine PCall.body Tryz.func113 rfl rfl Tryz.ntmps113 rfl rfl ?_
 repeat' (first|refine qS ?_|apply sqW|refine rgK fun U V=>?_|(refine aN V ?_;clear V U)|refine aB ?_|refine rtW ?_)
 exact⟨.inr rfl,Ent.b rfl⟩
theorem Iv (s:Score) (v:Int):PCall Tryz.prog 168 [.agg (encS s),.iptr [.int v]] (.b (s.version==v)):=by
 refine PCall.body Tryz.func168 rfl rfl Tryz.ntmps168 rfl rfl ?_
 repeat' (first|refine qS ?_|apply sqW|refine rgK fun U V=>?_|(refine aN V ?_;clear V U)|refine aB ?_|refine rtW ?_)
 exact⟨.inr rfl,Ent.b rfl⟩
theorem F8 (g:Nat) (l:List Score) (hl:l.length≤9223372036854775807) (v:Int) (hg0:∀s,PCall Tryz.prog g [.agg (encS s),.iptr [.int v]] (.b (s.version==v))) :
 PCall Tryz.prog 88 [.sl 4 (l.map encS) .no,.fn (.func g) [] [.iptr [.int v]]] (.int (bL l v)):=by
 refine PCall.body Tryz.func88 rfl rfl Tryz.ntmps88 rfl rfl ?_
 repeat' (first|refine qT ?_|apply sqW|refine rgK fun U V=>?_|(refine aN V ?_;clear V U)|refine blK ?_)
 refine lpW (ι:=Nat) (fun k=>[(0,.sl 4 (l.map encS) .no),(1,.fn (.func g) [] [.iptr [.int v]]),(7,.int l.length),(8,.int k)]) (fun _=>[]) (fun k=>k≤l.length∧∀j,j<k→((l.getD j default).version==v)=false) (fun k=>l.length - k) 0 ⟨nZl _,fun j h=>absurd h oM⟩ ⟨rfl,rfl,rfl,rfl,tI⟩ rfl ?_;rintro k ⟨hk,aT⟩;by_cases hlt:k<l.length
 · obtain⟨s,hs⟩:∃s,l.getD k default=s:=⟨_,rfl⟩
   have hv:=hg0 s
   repeat' (first|refine qP ?_ (h:=fun hg=>by first|exact iX encS l (((k):Nat):Int) hs (hb:=oM)|exact ae|exact pc hv|exact ah)|apply sqW|refine rgK fun U V=>?_|(refine aN V ?_;clear V U)|refine cX ?_ ?_<;>intro hc<;>try simp only[dE] at hc|refine blK ?_|refine exW ?_|refine skW ?_|refine rtW ?_)
   all_goals (first|exact dd|skip)
   · exact⟨.inr rfl,Ent.int (Eq.symm (eP hlt (by rw[hs];exact hc) aT))⟩
   · exact⟨k+1,⟨hlt,fun j hj=>bA aT (by rw[hs];exact hc) hj⟩,oM,⟨rfl,rfl,rfl,rfl,tI⟩,rfl⟩
 · repeat' (first|refine qT ?_|apply sqW|refine rgK fun U V=>?_|(refine aN V ?_;clear V U)|refine cX ?_ ?_<;>intro hc<;>try simp only[dE] at hc|refine blK ?_|refine exW ?_|refine skW ?_|refine rtW ?_)
   all_goals (first|exact dd|skip)
   exact⟨.inr rfl,Ent.int (Eq.symm (gq fun j hj=>aT j oM))⟩
def mb (l:List Score) (v:Int):List AV:=if bL l v<0 then [.int 0,.nils,.nils,.nils] else encS (atS l (bL l v).toNat)
theorem iZ {l:List Score} {v:Int} (h:¬bL l v<0):∃k:Nat,bL l v=k∧k<l.length∧(atS l k).version=v:=by
 obtain⟨k,h1,h2,h3,_⟩:=eh (p:=fun s:Score=>s.version==v) (l:=l) (by unfold bL at h;omega);exact⟨k,h1,h2,beq_iff_eq.1 h3⟩
theorem vv (g:Nat) (l:List Score) (hl:l.length≤9223372036854775807) (v:Int) (hg0:∀s,PCall Tryz.prog g [.agg (encS s),.iptr [.int v]] (.b (s.version==v))) :
 PCall Tryz.prog 112 [.sl 4 (l.map encS) .no,.fn (.func g) [] [.iptr [.int v]]] (.tup [.agg (mb l v),.b (!decide (bL l v<0))]):=by
 have h1:=F8 g l hl v hg0;refine PCall.bO ab Tryz.func112 rfl rfl Tryz.ntmps112 rfl ?_;by_cases hf:bL l v<0
 · have e:mb l v=[.int 0,.nils,.nils,.nils]:=if_pos hf;rw[e,decide_eq_true hf]
   repeat' (first|refine qP ?_ (h:=fun hg=>by first|exact ae|exact pc h1|exact ah)|apply sqW|refine rgK fun U V=>?_|(refine aN V ?_;clear V U)|refine aS ?_|refine aA ?_|refine cX ?_ ?_<;>intro hc<;>try simp only[dE] at hc|refine skW ?_|refine rtW ?_)
   all_goals (first|exact dd|skip)
   exact⟨.inr rfl,_,rfl,Ent.of rfl⟩
 · have e:mb l v=encS (atS l (bL l v).toNat):=if_neg hf;rw[e,decide_eq_false hf];obtain⟨k,hk,hlt,_⟩:=iZ hf;rw[hk] at h1 ⊢;rw[zAj];obtain⟨s,hs⟩:∃s,atS l k=s:=⟨_,rfl⟩
   rw[hs]
   repeat' (first|refine qP ?_ (h:=fun hg=>by first|exact iX encS l (((k):Nat):Int) hs (hb:=oM)|exact ae|exact pc h1|exact ah)|apply sqW|refine rgK fun U V=>?_|(refine aN V ?_;clear V U)|refine aS ?_|refine aA ?_|refine cX ?_ ?_<;>intro hc<;>try simp only[dE] at hc|refine skW ?_|refine rtW ?_)
   all_goals (first|exact dd|skip)
   exact⟨.inr rfl,_,rfl,Ent.of rfl⟩
theorem nt (l:List Score) (hl:l.length≤9223372036854775807) (hsm:∀s∈l,s.Small):PCall Tryz.prog 60 [.sl 4 (l.map encS) .no] (.b (cW l)):=by
 refine PCall.body Tryz.func60 rfl rfl Tryz.ntmps60 rfl rfl ?_
 repeat' (first|refine qT ?_|apply sqW|refine rgK fun U V=>?_|(refine aN V ?_;clear V U)|refine blK ?_)
 refine lpD (ι:=Nat) (fun k=>[(0,.sl 4 (l.map encS) .no),(5,.sl 4 (l.map encS) .no),(6,.int l.length),(7,.int k)]) (fun _=>[]) (fun k=>k≤l.length∧∀j,j<k→kR l j=true) (fun k=>l.length - k) 0 (fun _=>rfl) 0 ⟨nZl _,fun j h=>absurd h oM⟩ ⟨rfl,rfl,rfl,rfl,tI⟩ rfl (fun _ _=>rfl) (fun _ _=>rfl) ?_;rintro k ⟨hk,aT⟩;by_cases hlt:k<l.length
 · obtain⟨s,hs⟩:∃s,l.getD k default=s:=⟨_,rfl⟩
   have hv:=dy s (hsm s (by rw[←hs];exact bT hlt));have hst:kR l k=(aQ s&&(k==0||decide ((atS l (k - 1)).version<s.version))):=by unfold kR atS;rw[hs]
   cases ho:aQ s with
   | false =>
     rw[ho] at hv hst
     repeat' (first|refine qP ?_ (h:=fun hg=>by first|exact iX encS l (((k):Nat):Int) hs (hb:=oM)|exact ae|exact ah)|apply sqW|refine rgK fun U V=>?_|(refine aN V ?_;clear V U)|refine aS ?_|refine aA ?_|refine cX ?_ ?_<;>intro hc<;>try simp only[dE] at hc|refine blK ?_|refine exW ?_|refine skW ?_|refine rtW ?_|refine kD fun U V=>?_|(refine aqN (V _ ?_);clear V U)|refine aqQ rfl rfl (fun hg=>by first|exact ae|exact pc hv|exact(Bool.noConfusion (show false=true from hg):PRun _ _ _ _ (.b false))|exact ah|fail) (by exact rfl) ?_)
     all_goals (first|exact dd|skip)
     exact⟨.inr rfl,Ent.b (Eq.symm (Cd hlt hst))⟩
   | true =>
     rw[ho] at hv hst;cases k with
     | zero =>
       repeat' (first|refine qP ?_ (h:=fun hg=>by first|exact iX encS l (((0):Nat):Int) hs (hb:=oM)|exact ae|exact ah)|apply sqW|refine rgK fun U V=>?_|(refine aN V ?_;clear V U)|refine aS ?_|refine aA ?_|refine cX ?_ ?_<;>intro hc<;>try simp only[dE] at hc|refine blK ?_|refine exW ?_|refine skW ?_|refine rtW ?_|refine kD fun U V=>?_|(refine aqN (V _ ?_);clear V U)|refine aqQ rfl rfl (fun hg=>by first|exact ae|exact pc hv|exact(Bool.noConfusion (show false=true from hg):PRun _ _ _ _ (.b false))|exact ah|fail) (by exact rfl) ?_)
       all_goals (first|exact dd|skip)
       exact⟨0+1,⟨hlt,fun j hj=>by obtain rfl:j=0:=oM;exact hst⟩,by show l.length - (0+1)<l.length - 0;omega,⟨rfl,rfl,rfl,rfl,tI⟩,rfl⟩
     | succ k =>
       obtain⟨r,hr⟩:∃r,l.getD k default=r:=⟨_,rfl⟩
       have Af:kR l (k+1)=decide (r.version<s.version):=by rw[hst,←hr];rfl
       by_cases hle:s.version≤r.version
       · repeat' (first|refine qP ?_ (h:=fun hg=>by first|exact iX encS l (((k+1):Nat):Int) hs (hb:=oM)|exact ae|exact ah)|apply sqW|refine rgK fun U V=>?_|(refine aN V ?_;clear V U)|refine aS ?_|refine aA ?_|refine cX ?_ ?_<;>intro hc<;>try simp only[dE] at hc|refine blK ?_|refine exW ?_|refine skW ?_|refine rtW ?_|refine kD fun U V=>?_|(refine aqN (V _ ?_);clear V U)|refine aqQ rfl rfl (fun hg=>by first|exact PRun.eq (PRun.qI rfl rfl nd rfl nd rfl) (show AV.b (decide (s.version≤r.version))=AV.b true from congrArg AV.b (decide_eq_true hle))|exact PRun.eq (v:=.int ((((k+1:Nat):Int)) - 1)) (PRun.step ab rfl sd) (congrArg AV.int (show(((k+1:Nat):Int) - 1)=((k:Nat):Int) by omega))|exact iX encS l (((k):Nat):Int) hr (hb:=oM)|exact ae|exact pc hv|exact ah) (by exact rfl) ?_)
         all_goals (first|exact dd|skip)
         exact⟨.inr rfl,Ent.b (Eq.symm (Cd hlt (by rw[Af];exact decide_eq_false oM)))⟩
       · repeat' (first|refine qP ?_ (h:=fun hg=>by first|exact iX encS l (((k+1):Nat):Int) hs (hb:=oM)|exact ae|exact ah)|apply sqW|refine rgK fun U V=>?_|(refine aN V ?_;clear V U)|refine aS ?_|refine aA ?_|refine cX ?_ ?_<;>intro hc<;>try simp only[dE] at hc|refine blK ?_|refine exW ?_|refine skW ?_|refine rtW ?_|refine kD fun U V=>?_|(refine aqN (V _ ?_);clear V U)|refine aqQ rfl rfl (fun hg=>by first|exact PRun.eq (PRun.qI rfl rfl nd rfl nd rfl) (show AV.b (decide (s.version≤r.version))=AV.b false from congrArg AV.b (decide_eq_false hle))|exact PRun.eq (v:=.int ((((k+1:Nat):Int)) - 1)) (PRun.step ab rfl sd) (congrArg AV.int (show(((k+1:Nat):Int) - 1)=((k:Nat):Int) by omega))|exact iX encS l (((k):Nat):Int) hr (hb:=oM)|exact ae|exact pc hv|exact ah) (by exact rfl) ?_)
         all_goals (first|exact dd|skip)
         exact⟨k+1+1,⟨hlt,fun j hj=>by
          rcases nLg j (k+1) with g|g
          · exact aT j g
          · obtain rfl:j=k+1:=oM;rw[Af];exact decide_eq_true oM⟩,by show l.length - (k+1+1)<l.length - (k+1);omega,⟨rfl,rfl,rfl,rfl,tI⟩,rfl⟩
 · obtain rfl:k=l.length:=oM
   repeat' (first|refine qT ?_|apply sqW|refine rgK fun U V=>?_|(refine aN V ?_;clear V U)|refine aS ?_|refine aA ?_|refine cX ?_ ?_<;>intro hc<;>try simp only[dE] at hc|refine blK ?_|refine exW ?_|refine skW ?_|refine rtW ?_|refine kD fun U V=>?_|refine aqQ rfl rfl (fun hg=>by exact ae) (by exact rfl) ?_)
   all_goals (first|exact dd|skip)
   exact⟨.inr rfl,Ent.b (Eq.symm (It aT))⟩
end Go.Proofs.YtmjdoencpjpegaaGreatDoor.Cy
namespace Go.Proofs.YtmjdoencpjpegaaGreatDoor.Cy
open Go.Ab Go.Sort Al
def mc (l:List Score) (n:Nat):Bool:=(l.take 5).all dt&&(decide ((l.length:Int)≤4)&&decide ((n:Int)≤12))
theorem Iw {l:List Score} {n:Nat} (h:mc l n=true):(∀s∈l,dt s=true)∧l.length≤4∧n≤12:=by
 unfold mc at h;simp only[zA0,dEt,zA6] at h;refine⟨fun s hs=>h.1 s ?_,oM,oM⟩;rw[zAn oM];exact hs
end Go.Proofs.YtmjdoencpjpegaaGreatDoor.Cy
namespace Go.Ab
theorem PCall.Nl {P:Program} {f:FuncId} {sz:Nat} (pre post:List AV) {r:AV} (h:PCall P f (pre++.sl sz [] .no::post) r):PCall P f (pre++.nils::post) r:=by
 refine⟨h.1,fun M W vs hm ha=>h.2 M W vs hm ⟨by rw[ha.1];simp,fun i c hi=>?_⟩⟩;rcases Nat.lt_trichotomy i pre.length with g|g|g
 · rw[zA8 g] at hi;exact ha.2 i c (by rw[zA8 g];exact hi)
 · subst g;rw[zA7 (nLr _),Nat.sub_self] at hi;simp at hi;subst hi;have:=ha.2 pre.length .nils sMp;generalize vs.getD pre.length undef=y at this ⊢;cases this;exact .slz sz .no trivial
 · rw[zA7 oM] at hi;obtain⟨k,hk⟩:∃k,i - pre.length=k+1:=⟨i - pre.length - 1,oM⟩
   rw[hk] at hi;exact ha.2 i c (by rw[zA7 oM,hk];exact hi)
end Go.Ab
namespace Go.Proofs.YtmjdoencpjpegaaGreatDoor.Top
open Go.Ab Go.Jo Go.Sy Go.Sort Go.Pl Al Mk Cy De Pl
attribute [local irreducible] AWP AOps EStep AQ PStep PRun PCall TCall VCall
theorem K5 {l:List Score} {n k:Nat} (hk:k<l.length) (h4:k≤4) (h:dt (l.getD k default)=false):mc l n=false:=by
 unfold mc;have:(l.take 5).all dt=false:=by
  rw[zE0];refine⟨l.getD k default,?_,by rw[h];decide⟩;rw[aU hk];exact zD1.2 ⟨k,oM,rfl⟩
 rw[this];rfl
theorem Ix {l:List Score} {n k:Nat} (hk:k=l.length∨k=5) (h:∀j,j<k→dt (l.getD j default)=true):mc l n=(decide ((l.length:Int)≤4)&&decide ((n:Int)≤12)):=by
 unfold mc;have:(l.take 5).all dt=true:=by
  rw[zA6];intro s hs;obtain⟨j,hj,rfl⟩:=zD1.1 hs;have:=h j oM;rwa [aU oM] at this
 rw[this,zBw]
theorem DS (l:List Score) (hl:l.length≤9223372036854775807) (hsz:∀s∈l,s.uT) (ms:List Jo.Mark) (hms:ms.length≤9223372036854775807):PCall Tryz.prog 16 [.sl 4 (l.map encS) .no,.sl 10 (ms.map aJ) .no] (.b (mc l ms.length)):=by
 refine PCall.body Tryz.func16 rfl rfl Tryz.ntmps16 rfl rfl ?_
 repeat' (first|refine qS ?_|apply sqW|refine rgK fun U V=>?_|(refine aN V ?_;clear V U)|refine blK ?_)
 refine lpW (ι:=Nat) (fun k=>[(0,.sl 4 (l.map encS) .no),(1,.sl 10 (ms.map aJ) .no),(5,.int k)]) (fun _=>[]) (fun k=>k≤l.length∧k≤5∧∀j,j<k→dt (l.getD j default)=true) (fun k=>l.length - k) 0 ⟨nZl _,nZl _,fun j h=>absurd h oM⟩ ⟨rfl,rfl,rfl,tI⟩ rfl ?_;rintro k ⟨hk,h5,aT⟩;by_cases hlt:k<l.length∧k≤4
 · obtain⟨hlt,h4⟩:=hlt;obtain⟨s,hs⟩:∃s,l.getD k default=s:=⟨_,rfl⟩
   have hv:=DR s (hsz s (by rw[←hs];exact bT hlt));cases ho:dt s with
   | false =>
     rw[ho] at hv
     repeat' (first|refine qP ?_ (h:=fun hg=>by first|exact iX encS l (((k):Nat):Int) hs (hb:=oM)|exact ae|exact pc hv|exact ah)|apply sqW|refine rgK fun U V=>?_|(refine aN V ?_;clear V U)|refine cX ?_ ?_<;>intro hc<;>try simp only[dE] at hc|refine blK ?_|refine exW ?_|refine skW ?_|refine rtW ?_)
     all_goals (first|(exact⟨.inr rfl,Ent.b (Eq.symm (K5 hlt h4 (by rw[hs];exact ho)))⟩)|(exfalso;simp at hc;done)|(exfalso;simp at hc;omega))
   | true =>
     rw[ho] at hv
     repeat' (first|refine qP ?_ (h:=fun hg=>by first|exact iX encS l (((k):Nat):Int) hs (hb:=oM)|exact ae|exact pc hv|exact ah)|apply sqW|refine rgK fun U V=>?_|(refine aN V ?_;clear V U)|refine cX ?_ ?_<;>intro hc<;>try simp only[dE] at hc|refine blK ?_|refine exW ?_|refine skW ?_|refine rtW ?_)
     all_goals (first|(exact⟨k+1,⟨oM,oM,fun j hj=>by
      rcases nLg j k with g|g
      · exact aT j g
      · obtain rfl:j=k:=oM;rw[hs];exact ho⟩,oM,⟨rfl,rfl,rfl,tI⟩,rfl⟩)|(exfalso;simp at hc;done)|(exfalso;simp at hc;omega))
 · repeat' (first|refine qT ?_|apply sqW|refine rgK fun U V=>?_|(refine aN V ?_;clear V U)|refine cX ?_ ?_<;>intro hc<;>try simp only[dE] at hc|refine blK ?_|refine exW ?_|refine skW ?_|refine rtW ?_)
   all_goals (first|(exact⟨.inr rfl,Ent.b (Eq.symm (Ix (k:=k) oM aT))⟩)|(exfalso;simp at hc;omega))
def rQ (f:aR):Bool:=decide (f.bars≤60)&&decide ((f.aC.length:Int)≤110)&&decide ((f.ends.length:Int)≤60)&&decide ((f.cuts.length:Int)≤110)
structure Ag (f:aR):Prop where
 aC:f.aC.length≤9223372036854775807
 ends:f.ends.length≤9223372036854775807
 cuts:f.cuts.length≤9223372036854775807
theorem F9 (f:aR) (hz:Ag f):PCall Tryz.prog 37 [.agg (bl f)] (.b (rQ f)):=by
 obtain⟨h1,h2,h3⟩:=hz;refine PCall.body Tryz.func37 rfl rfl Tryz.ntmps37 rfl rfl ?_
 repeat' (first|refine qT ?_|apply sqW|refine rgK fun U V=>?_|(refine aN V ?_;clear V U)|refine aB ?_|refine rtW ?_)
 exact⟨.inr rfl,Ent.b rfl⟩
theorem DT (s:Std) (hl:s.evs.length≤9223372036854775807):PCall Tryz.prog 6 [.agg (fH s)] (.b (decide ((s.evs.length:Int)≤30))):=by
 refine PCall.body Tryz.func6 rfl rfl Tryz.ntmps6 rfl rfl ?_
 repeat' (first|refine qT ?_|apply sqW|refine rgK fun U V=>?_|(refine aN V ?_;clear V U)|refine aB ?_|refine rtW ?_)
 exact⟨.inr rfl,Ent.b rfl⟩
abbrev aH (ws:List ba):List Score:=ws.map (·.score)
theorem qk {ws:List ba} {k:Nat} {w:ba} (hk:k<ws.length) (h:ws.getD k default=w):(aH (ws.take k)).map encS++[encS w.score]=(aH (ws.take (k+1))).map encS:=by
 have:ws.take (k+1)=ws.take k++[w]:=by rw[←h,aU hk];exact zBe hk
 rw[this];simp
def nu (ws:List ba) (ds:List Dec):Bool:=((ws.take 7).all fun w=>!(!rQ w.form||decide ((w.score.bars.length:Int)>60)))&&(decide ((ws.length:Int)≤6)&&decide ((ds.length:Int)≤30))
theorem K6 {ws:List ba} {ds:List Dec} {k:Nat} (hk:k<ws.length) (h4:k≤6) (h:(!rQ (ws.getD k default).form||decide (((ws.getD k default).score.bars.length:Int)>60))=true):nu ws ds=false:=by
 unfold nu;have:((ws.take 7).all fun w=>!(!rQ w.form||decide ((w.score.bars.length:Int)>60)))=false:=by
  rw[zE0];refine⟨ws.getD k default,?_,by rw[h];decide⟩;rw[aU hk];exact zD1.2 ⟨k,oM,rfl⟩
 rw[this];rfl
theorem Iy {ws:List ba} {ds:List Dec} {k:Nat} (hk:k=ws.length∨k=7) (h:∀j,j<k→(!rQ (ws.getD j default).form||decide (((ws.getD j default).score.bars.length:Int)>60))=false):nu ws ds=(decide ((ws.length:Int)≤6)&&decide ((ds.length:Int)≤30)):=by
 unfold nu;have:((ws.take 7).all fun w=>!(!rQ w.form||decide ((w.score.bars.length:Int)>60)))=true:=by
  rw[zA6];intro s hs;obtain⟨j,hj,rfl⟩:=zD1.1 hs;have:=h j oM;rw[aU oM] at this;rw[this];rfl
 rw[this,zBw]
structure o6 (w:ba):Prop where
 score:w.score.uT
 form:Ag w.form
theorem DU (ws:List ba) (hl:ws.length≤9223372036854775807) (hz:∀w∈ws,o6 w) (ds:List Dec) (hd:ds.length≤9223372036854775807):PCall Tryz.prog 18 [.sl 12 (ws.map bb) .no,.sl 6 (ds.map bu) .no] (.b (nu ws ds)):=by
 refine PCall.body Tryz.func18 rfl rfl Tryz.ntmps18 rfl rfl ?_
 repeat' (first|refine qS ?_|apply sqW|refine rgK fun U V=>?_|(refine aN V ?_;clear V U)|refine blK ?_)
 refine lpW (ι:=Nat) (fun k=>[(0,.sl 12 (ws.map bb) .no),(1,.sl 6 (ds.map bu) .no),(5,.int k)]) (fun _=>[]) (fun k=>k≤ws.length∧k≤7∧∀j,j<k→(!rQ (ws.getD j default).form||decide (((ws.getD j default).score.bars.length:Int)>60))=false) (fun k=>ws.length - k) 0 ⟨nZl _,nZl _,fun j h=>absurd h oM⟩ ⟨rfl,rfl,rfl,tI⟩ rfl ?_;rintro k ⟨hk,h5,aT⟩;by_cases hlt:k<ws.length∧k≤6
 · obtain⟨hlt,h4⟩:=hlt;obtain⟨w,hw⟩:∃w,ws.getD k default=w:=⟨_,rfl⟩
   have hwz:=hz w (by rw[←hw];exact bT hlt);have hv:=F9 w.form hwz.form;have hbl:=hwz.score.1
   repeat' (first|refine qP ?_ (h:=fun hg=>by first|exact iX bb ws ((k:Nat):Int) hw (hb:=oM)|exact ae|exact pc hv|exact ah)|apply sqW|refine rgK fun U V=>?_|(refine aN V ?_;clear V U)|refine cX ?_ ?_<;>intro hc<;>try simp only[dE] at hc|refine blK ?_|refine exW ?_|refine skW ?_|refine rtW ?_)
   all_goals (first|(exact⟨.inr rfl,Ent.b (Eq.symm (K6 hlt h4 (by rw[hw];exact hc)))⟩)|(exact⟨k+1,⟨hlt,oM,fun j hj=>bA aT (by rw[hw];exact hc) hj⟩,oM,⟨rfl,rfl,rfl,tI⟩,rfl⟩)|(exfalso;simp at hc;done)|(exfalso;simp at hc;omega))
 · have hke:k=ws.length∨k=7:=oM
   repeat' (first|refine qT ?_|apply sqW|refine rgK fun U V=>?_|(refine aN V ?_;clear V U)|refine cX ?_ ?_<;>intro hc<;>try simp only[dE] at hc|refine blK ?_|refine exW ?_|refine skW ?_|refine rtW ?_)
   all_goals (first|(exact⟨.inr rfl,Ent.b (Eq.symm (Iy hke aT))⟩)|(exfalso;simp at hc;omega)|skip)
theorem xN (ws:List ba) (hl:ws.length≤1000000000000):PCall Tryz.prog 17 [.sl 12 (ws.map bb) .no] (.sl 4 ((aH ws).map encS) .no):=by
 refine PCall.body Tryz.func17 rfl rfl Tryz.ntmps17 rfl rfl ?_
 repeat' (first|refine qS ?_|apply sqW|refine rgK fun U V=>?_|(refine aN V ?_;clear V U)|refine blK ?_)
 refine AWP.fX (d:=3) (sz:=4) rfl ?_
 refine lpD (ι:=Nat) (fun k=>[(0,.sl 12 (ws.map bb) .no),(3,.sl 4 ((aH (ws.take k)).map encS) (.own 0)),(4,.int k)]) (fun k=>[.own 4 ((aH (ws.take k)).map encS).length])
  (fun k=>k≤ws.length) (fun k=>ws.length - k) 1 (fun _=>rfl) 0 (nZl _) ⟨rfl,rfl,rfl,tI⟩ rfl (fun _ _=>rfl) (fun _ _=>rfl) ?_
 intro k hk;by_cases hlt:k<ws.length
 · obtain⟨w,hw⟩:∃w,ws.getD k default=w:=⟨_,rfl⟩
   have hst:=qk hlt hw;have hlen:((aH (ws.take k)).map encS).length=k:=by simp;omega
   generalize (aH (ws.take k)).map encS=A at *
   repeat' (first|refine qP ?_ (h:=fun hg=>by first|exact iX bb ws ((k:Nat):Int) hw (hb:=oM)|exact ae|exact pbS ab rfl rfl nds|exact ah)|apply sqW|refine rgK fun U V=>?_|(refine aN V ?_;clear V U)|refine aoE (apO ab rfl rfl rfl dCd (Rd.w rfl tI) rfl (Rd.w rfl tI) (.sl rfl (by first|(intro x hx;rcases zA9.1 hx with rfl;rfl)|exact one_by8 _|exact one_ints _)) (lkG rfl) (lkG rfl) rfl rfl (by simp only[lLm,lLa,zAc,zAi];omega) (by simp only[lLm,lLa,zAc,zAi];omega) ?_)|refine cX ?_ ?_<;>intro hc<;>try simp only[dE] at hc|refine blK ?_|refine exW ?_|refine skW ?_|refine rtW ?_)
   all_goals (first|exact dd|skip)
   refine⟨k+1,hlt,oM,⟨rfl,?_,rfl,tI⟩,?_⟩
   · rw[←hst];rfl
   · rw[←hst];rfl
 · obtain rfl:k=ws.length:=oM;rw[zB2]
   repeat' (first|refine qT ?_|apply sqW|refine rgK fun U V=>?_|(refine aN V ?_;clear V U)|refine cX ?_ ?_<;>intro hc<;>try simp only[dE] at hc|refine blK ?_|refine exW ?_|refine skW ?_|refine rtW ?_)
   all_goals (first|exact dd|skip)
   exact⟨.inr rfl,Ent.of rfl⟩
theorem xO (ws:List ba) (hl:ws.length≤1000000000000) (hz:∀w∈ws,o6 w) (ds:List Dec) (hd:ds.length≤9223372036854775807):PCall Tryz.prog 5 [.sl 12 (ws.map bb) .no,.sl 6 (ds.map bu) .no] (.b (mc (aH ws) 0&&nu ws ds)):=by
 have h1:=xN ws hl;have h2:=PCall.Nl (sz:=10) [.sl 4 ((aH ws).map encS) .no] [] (DS (aH ws) (by simp;omega) (fun s hs=>by
  obtain⟨w,hw,rfl⟩:=zAf.1 hs;exact(hz w hw).score) [] sMp)
 have h3:=DU ws oM hz ds hd;refine PCall.body Tryz.func5 rfl rfl Tryz.ntmps5 rfl rfl ?_
 repeat' (first|refine qP ?_ (h:=fun hg=>by first|exact ae|exact pc h1|exact pc h2|exact pc h3|fail)|apply sqW|refine rgK fun U V=>?_|(refine aN V ?_;clear V U)|refine rtW ?_)
 exact⟨.inr rfl,Ent.b rfl⟩
end Go.Proofs.YtmjdoencpjpegaaGreatDoor.Top
namespace Go.Proofs.YtmjdoencpjpegaaGreatDoor.Top
open Go.Ab Go.Sort Al Cy
attribute [local irreducible] AWP AOps EStep AQ PStep PRun PCall TCall VCall
theorem Ga (s:Score):PCall Tryz.prog 41 [.agg (encS s)] (.int s.version):=by
 refine PCall.body Tryz.func41 rfl rfl Tryz.ntmps41 rfl rfl ?_
 repeat' (first|refine qS ?_|apply sqW|refine rgK fun U V=>?_|(refine aN V ?_;clear V U)|refine aB ?_|refine rtW ?_)
 exact⟨.inr rfl,Ent.int rfl⟩
theorem Gb (p:Part):PCall Tryz.prog 43 [.agg (bt p)] (.int p.id):=by
 refine PCall.body Tryz.func43 rfl rfl Tryz.ntmps43 rfl rfl ?_
 repeat' (first|refine qS ?_|apply sqW|refine rgK fun U V=>?_|(refine aN V ?_;clear V U)|refine aB ?_|refine rtW ?_)
 exact⟨.inr rfl,Ent.int rfl⟩
theorem Iz (s:Score) (v:Int):PCall Tryz.prog 89 [.agg (encS s),.iptr [.fn (.func 41) [] []],.iptr [.int v]] (.b (s.version==v)):=by
 refine PCall.body Tryz.func89 rfl rfl Tryz.ntmps89 rfl rfl ?_
 repeat' (first|refine qS ?_|apply sqW|refine rgK fun U V=>?_|(refine aN V ?_;clear V U)|refine aB ?_|refine rtW ?_|refine kD fun U V=>?_|(refine aqN (V _ ?_);clear V U)|refine aqQ rfl rfl (fun hg=>by first|exact ae|exact pc (Ga s)|fail) (by exact rfl) ?_)
 exact⟨.inr rfl,Ent.b rfl⟩
theorem IA (p:Part) (v:Int):PCall Tryz.prog 91 [.agg (bt p),.iptr [.fn (.func 43) [] []],.iptr [.int v]] (.b (p.id==v)):=by
 refine PCall.body Tryz.func91 rfl rfl Tryz.ntmps91 rfl rfl ?_
 repeat' (first|refine qS ?_|apply sqW|refine rgK fun U V=>?_|(refine aN V ?_;clear V U)|refine aB ?_|refine rtW ?_|refine kD fun U V=>?_|(refine aqN (V _ ?_);clear V U)|refine aqQ rfl rfl (fun hg=>by first|exact ae|exact pc (Gb p)|fail) (by exact rfl) ?_)
 exact⟨.inr rfl,Ent.b rfl⟩
theorem DV (l:List Score) (fv:AV) (p:Score→Bool) (hp:∀x∈l,fw Tryz.prog fv [.agg (encS x)] (.b (p x))) (hl:l.length≤9223372036854775807) :
 PCall Tryz.prog 88 [.sl 4 (l.map encS) .no,fv] (.int (aX p l)):=by
 refine PCall.lG [1] Tryz.func88 rfl rfl Tryz.ntmps88 rfl rfl ?_
 repeat' (first|refine qT ?_|apply sqW|refine rgK fun U V=>?_|(refine aN V ?_;clear V U)|refine blK ?_)
 refine lpW (ι:=Nat) (fun k=>[(0,.sl 4 (l.map encS) .no),(1,.ext fv),(7,.int l.length),(8,.int k)]) (fun _=>[]) (fun k=>k≤l.length∧∀j,j<k→p (l.getD j default)=false) (fun k=>l.length - k) 0 ⟨nZl _,fun j h=>absurd h oM⟩ ⟨rfl,rfl,rfl,rfl,tI⟩ rfl ?_;rintro k ⟨hk,aT⟩;by_cases hlt:k<l.length
 · repeat' (first|refine qP ?_ (h:=fun hg=>by first|exact ae|exact PRun.r9 (hp _ (bT hlt)) rfl rfl nd rfl nds|exact ah)|apply sqW|refine rgK fun U V=>?_|(refine aN V ?_;clear V U)|refine cX ?_ ?_<;>intro hc<;>try simp only[dE] at hc|refine blK ?_|refine exW ?_|refine skW ?_|refine rtW ?_)
   · refine⟨.inr rfl,?_⟩;rw[show aX p l=k from eP hlt hc aT];exact fun _ _ h=>h
   · exact⟨k+1,⟨oM,fun j hj=>bA aT hc hj⟩,oM,⟨rfl,rfl,rfl,rfl,tI⟩,rfl⟩
   · exfalso;omega
 · repeat' (first|refine qT ?_|apply sqW|refine rgK fun U V=>?_|(refine aN V ?_;clear V U)|refine cX ?_ ?_<;>intro hc<;>try simp only[dE] at hc|refine blK ?_|refine exW ?_|refine skW ?_|refine rtW ?_)
   · exfalso;omega
   · refine⟨.inr rfl,?_⟩;rw[show aX p l = -1 from gq fun j hj=>aT j oM];exact fun _ _ h=>h
theorem Bl (l:List Score) (hl:l.length≤9223372036854775807) (v:Int) :
 PCall Tryz.prog 40 [.sl 4 (l.map encS) .no,.int v,.fn (.func 41) [] []] (.tup [.agg (mb l v),.b (!decide (bL l v<0))]):=by
 have h1:=DV l (.fn (.func 89) [] [.iptr [.fn (.func 41) [] []],.iptr [.int v]]) (fun s=>s.version==v) (fun x _=>⟨_,[],_,rfl,Iz x v⟩) hl;rw[show aX (fun s:Score=>s.version==v) l=bL l v from rfl] at h1;refine PCall.bO ab Tryz.func40 rfl rfl Tryz.ntmps40 rfl ?_;by_cases hf:bL l v<0
 · have e:mb l v=[.int 0,.nils,.nils,.nils]:=if_pos hf;rw[e,decide_eq_true hf]
   repeat' (first|refine qP ?_ (h:=fun hg=>by first|exact ae|exact pbW (h1) rfl rfl nd rfl rfl nds|exact ah)|apply sqW|refine rgK fun U V=>?_|(refine aN V ?_;clear V U)|refine aB ?_|refine aS ?_|refine aA ?_|refine cX ?_ ?_<;>intro hc<;>try simp only[dE] at hc|refine skW ?_|refine rtW ?_)
   all_goals (first|exact dd|skip)
   exact⟨.inr rfl,_,rfl,Ent.of rfl⟩
 · have e:mb l v=encS (atS l (bL l v).toNat):=if_neg hf;rw[e,decide_eq_false hf];obtain⟨k,hk,hlt,_⟩:=iZ hf;rw[hk] at h1 ⊢;rw[zAj];obtain⟨s,hs⟩:∃s,atS l k=s:=⟨_,rfl⟩
   rw[hs]
   repeat' (first|refine qP ?_ (h:=fun hg=>by first|exact iX encS l (((k):Nat):Int) hs (hb:=oM)|exact ae|exact pbW (h1) rfl rfl nd rfl rfl nds|fail)|apply sqW|refine rgK fun U V=>?_|(refine aN V ?_;clear V U)|refine aB ?_|refine aS ?_|refine aA ?_|refine cX ?_ ?_<;>intro hc<;>try simp only[dE] at hc|refine skW ?_|refine rtW ?_)
   all_goals (first|exact dd|skip)
   exact⟨.inr rfl,_,rfl,Ent.of rfl⟩
def Ah (l:List Part) (v:Int):List AV:=if aX (fun p:Part=>p.id==v) l<0 then bt ⟨0,0,0,0,0,⟨0,0⟩,⟨0,0,0⟩,⟨0,0,0⟩⟩ else bt (l.getD (aX (fun p:Part=>p.id==v) l).toNat default)
theorem Bm (l:List Part) (hl:l.length≤9223372036854775807) (v:Int) :
 PCall Tryz.prog 42 [.sl 13 (l.map bt) .no,.int v,.fn (.func 43) [] []] (.tup [.agg (Ah l v),.b (!decide (aX (fun p:Part=>p.id==v) l<0))]):=by
 have h1:=mU l (.fn (.func 91) [] [.iptr [.fn (.func 43) [] []],.iptr [.int v]]) (fun p=>p.id==v) (fun x _=>⟨_,[],_,rfl,IA x v⟩) hl;refine PCall.bO ab Tryz.func42 rfl rfl Tryz.ntmps42 rfl ?_;by_cases hf:aX (fun p:Part=>p.id==v) l<0
 · have e:Ah l v=bt ⟨0,0,0,0,0,⟨0,0⟩,⟨0,0,0⟩,⟨0,0,0⟩⟩:=if_pos hf;rw[e,decide_eq_true hf]
   repeat' (first|refine qP ?_ (h:=fun hg=>by first|exact ae|exact pbW (h1) rfl rfl nd rfl rfl nds|exact ah)|apply sqW|refine rgK fun U V=>?_|(refine aN V ?_;clear V U)|refine aB ?_|refine aS ?_|refine aA ?_|refine cX ?_ ?_<;>intro hc<;>try simp only[dE] at hc|refine skW ?_|refine rtW ?_)
   all_goals (first|exact dd|skip)
   exact⟨.inr rfl,_,rfl,Ent.of rfl⟩
 · have e:Ah l v=bt (l.getD (aX (fun p:Part=>p.id==v) l).toNat default):=if_neg hf;rw[e,decide_eq_false hf];obtain⟨k,hk,hlt,_⟩:=eh (p:=fun p:Part=>p.id==v) (l:=l) oM;rw[hk] at h1 ⊢;rw[zAj];obtain⟨s,hs⟩:∃s,l.getD k default=s:=⟨_,rfl⟩
   rw[hs]
   repeat' (first|refine qP ?_ (h:=fun hg=>by first|exact iX bt l (((k):Nat):Int) hs (hb:=oM)|exact ae|exact pbW (h1) rfl rfl nd rfl rfl nds|fail)|apply sqW|refine rgK fun U V=>?_|(refine aN V ?_;clear V U)|refine aB ?_|refine aS ?_|refine aA ?_|refine cX ?_ ?_<;>intro hc<;>try simp only[dE] at hc|refine skW ?_|refine rtW ?_)
   all_goals (first|exact dd|skip)
   exact⟨.inr rfl,_,rfl,Ent.of rfl⟩
end Go.Proofs.YtmjdoencpjpegaaGreatDoor.Top
