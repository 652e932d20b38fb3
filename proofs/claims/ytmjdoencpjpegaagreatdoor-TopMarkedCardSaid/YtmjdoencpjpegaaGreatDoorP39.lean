/- Parts of the proof. No statement is proved here. -/
import Derived.Test.YtmjdoencpjpegaaGreatDoorP35
set_option linter.unusedVariables false
set_option linter.unusedSimpArgs false
set_option maxHeartbeats 16000000
set_option maxRecDepth 20000
namespace Go.Proofs.YtmjdoencpjpegaaGreatDoor.Cy
open Go.Ab Go.Sort Al Mk
attribute [local irreducible] AWP AOps EStep AQ PStep PRun PCall TCall VCall
theorem IF {l:List Score} (h:cW l=true):∀s∈l,aQ s=true:=fun s hs=>by
 unfold cW at h;simp only[zA0,zA6] at h;obtain⟨k,hk,rfl⟩:=zB9.1 hs;have h1:=h.2 k (zBk.2 hk);unfold kR atS at h1;simp only[zA0] at h1;rw[aU hk] at h1;exact h1.1
theorem xt {l:List Score} (h:cW l=true) (hf:∀s∈l,dt s=true):∀s∈l,Good s:=fun s hs=>⟨IF h s hs,hf s hs⟩
def vC (l:List Score) (m:Jo.Mark) (v:Int):Bool:=iH v&&(Jo.bc m&&cW l)
def o9 (l:List Score) (m:Jo.Mark) (v:Int):Option Jo.Mark×Int :=
 if vC l m v=true then (if bL l v<0 then (none,32) else (bH l v (atS l (bL l v).toNat) m,0)) else (none,1)
theorem Gq (m:Jo.Mark):qn (.own 1 0) (.own 1 0) (.var (aJ m)) (.var Gk):=fun _ _=>⟨rfl,rfl,rfl,rfl⟩
theorem vD (l:List Score) (hl:l.length≤1000000) (hf:∀s∈l,dt s=true) (m:Jo.Mark) (ht:m.text.length≤9223372036854775807) (v:Int) :
 PCall Tryz.prog 30 [.sl 4 (l.map encS) .no,.agg (aJ m),.int v] (DZ (o9 l m v).1 (o9 l m v).2):=by
 have hsm:∀s∈l,s.Small:=fun s hs=>gA (hf s hs)
 have v1:=qB v;have v2:=Mk.cH m ht;have v3:=nt l oM hsm;have hv:=TCall.val (first:=[]) (aM:=[]) (avs:=[.sl 4 (l.map encS) .no,.int v]) (oc (Gq m) l hl hsm v);refine PCall.bO ab Tryz.func30 rfl rfl Tryz.ntmps30 rfl ?_;refine AWP.oS 1 (AWP.oS 1 ?_);by_cases hok:vC l m v=true
 · have hR:o9 l m v=if bL l v<0 then (none,32) else (bH l v (atS l (bL l v).toNat) m,0):=if_pos hok
   unfold vC at hok;simp only[zA0] at hok;obtain⟨o1,o2,o3⟩:=hok;have hgd:=xt o3 hf;rw[o1] at v1;rw[o2] at v2;rw[o3] at v3
   repeat' (first|refine qP ?_ (h:=fun hg=>by first|exact ae|exact pc v1|exact pc v2|exact pc v3|exact ah)|apply sqW|refine rgK fun U V=>?_|(refine aN V ?_;clear V U)|refine aB ?_|refine aA ?_|refine aoE (scT (hv) rfl rfl rfl rfl rfl nd rfl rfl nds ?_)|refine cX ?_ ?_<;>intro hc<;>try simp only[dE] at hc|refine skW ?_)
   all_goals (first|exact dd|skip)
   intro r s hr;unfold ncR at hr;clear hv;split at hr
   · rename_i oy;obtain⟨rfl,rfl⟩:=hr
     repeat' (first|refine qP ?_ (h:=fun hg=>by first|exact ae|exact pbD ab rfl rfl nds|exact ah)|apply sqW|refine rgK fun U V=>?_|(refine aN V ?_;clear V U)|refine aS ?_|refine cX ?_ ?_<;>intro hc<;>try simp only[dE] at hc|refine skW ?_|refine rtW ?_)
     all_goals (first|exact dd|skip)
     rw[hR,if_pos oy];exact⟨.inr rfl,_,rfl,Ent.of rfl⟩
   · rename_i oy;obtain⟨rfl,rfl⟩:=hr;rw[if_neg oy] at hR;obtain⟨k,hk,hlt,_⟩:=iZ oy;rw[hk,zAj] at hR ⊢;have hto:Good (atS l k):=hgd _ (bT hlt);have hc1:=TCall.val (first:=[]) (aM:=[]) (avs:=[.ptr 8 0,.agg (aJ m)]) (vw (Gq m) l hl hgd v (atS l k) hto _ (gm.first l v (atS l k)) m)
     repeat' (first|refine qS ?_|apply sqW|refine rgK fun U V=>?_|(refine aN V ?_;clear V U)|refine aoE (scT (hc1) rfl rfl rfl rfl rfl nd rfl rfl nds ?_)|refine cX ?_ ?_<;>intro hc<;>try simp only[dE] at hc|refine skW ?_)
     all_goals (first|exact dd|skip)
     rintro _ _ ⟨rfl,al2,hm2,rfl⟩;clear hc1 hm2;generalize bH l v (atS l k) m=c at *
     repeat' (first|refine qS ?_|(refine aN V ?_;clear V U)|refine aS ?_|refine rtW ?_)
     rw[hR];exact⟨.inr rfl,_,rfl,Ent.of rfl⟩
 · have hR:o9 l m v=(none,1):=if_neg hok;rw[hR];have hno:(iH v&&(Jo.bc m&&cW l))=false:=by
    cases h:(iH v&&(Jo.bc m&&cW l)) with
    |false=>rfl
    |true=>exact absurd h hok
   clear hv hok hR;generalize iH v=s1 at *;generalize Jo.bc m=s2 at *;generalize cW l=s3 at *
   repeat' (first|refine qP ?_ (h:=fun hg=>by first|exact ae|exact pc v1|exact pc v2|exact pc v3|exact pbD ab rfl rfl nds|exact ah)|apply sqW|refine rgK fun U V=>?_|(refine aN V ?_;clear V U)|refine aB ?_|refine aS ?_|refine aA ?_|refine cX ?_ ?_<;>intro hc<;>try simp only[dE] at hc|refine skW ?_|refine rtW ?_)
   all_goals (first|(exact⟨.inr rfl,_,rfl,Ent.of rfl⟩)|(exfalso;cases s1<;>cases s2<;>cases s3<;>simp at hc hno)|(rename_i h0;exfalso;cases s1<;>cases s2<;>cases s3<;>simp at h0 hno))
end Go.Proofs.YtmjdoencpjpegaaGreatDoor.Cy
namespace Go.Proofs.YtmjdoencpjpegaaGreatDoor.Mk
open Go.Ab Go.Jo
attribute [local irreducible] AWP AOps EStep AQ PStep PRun PCall TCall VCall
theorem wC (l:List Jo.Mark) (hl:l.length≤9223372036854775807) (ht:lu l):PCall Tryz.prog 92 [.sl 10 (l.map aJ) .no] (.b (bP l)):=by
 refine PCall.body Tryz.func92 rfl rfl Tryz.ntmps92 rfl rfl ?_
 repeat' (first|refine qT ?_|apply sqW|refine rgK fun U V=>?_|(refine aN V ?_;clear V U)|refine aoE (EStep.cz rfl rfl rfl rfl ?_)|refine blK ?_)
 refine lpD (ι:=Nat) (fun k=>[(0,.sl 10 (l.map aJ) .no),(3,.map 0),(7,.sl 10 (l.map aJ) .no),(8,.int l.length),(9,.int k)]) (fun k=>[.map (Go.Ab.aD ekI AV.b (gI (·.id) (l.take k)))])
  (fun k=>k≤l.length∧(∀j,j<k→bc (l.getD j default)=true)∧((l.take k).map (·.id)).Nodup) (fun k=>l.length - k) 1 (fun _=>rfl) 0 ⟨nZl _,fun j h=>absurd h oM,by simp⟩ ⟨rfl,rfl,rfl,rfl,rfl,tI⟩ rfl (fun _ _=>rfl) (fun k _=>by simp[ak,Go.Ab.aD,aG]) ?_
 rintro k ⟨hk,aT,hnd⟩;by_cases hlt:k<l.length
 · have hs:=oP (fun b:Jo.Mark=>b.id) (l.take k) (l.getD k default).id;have hv:=Mk.cH (l.getD k default) (ht.at hlt)
   repeat' (first|refine qP ?_ (h:=fun hg=>by first|exact ae|exact PRun.lookup (ek:=ekI) (ev:=AV.b) (zv:=false) (ay (lkG rfl)) (lkG rfl) (lkG rfl) rfl rfl (Rd.w rfl nd) (Or.inr ⟨_,rfl,rfl⟩) (Rd.w rfl nd) rfl|exact pc hv|exact ah)|apply sqW|refine rgK fun U V=>?_|(refine aN V ?_;clear V U)|refine aS ?_|refine aA ?_|refine aoE (EStep.dm (ek:=ekI) (ev:=AV.b) (v:=true) (ay (lkG rfl)) (lkG rfl) rfl rfl rfl (Rd.w rfl tI) rfl (Rd.w rfl tI) rfl (Rd.w rfl tI) ?_)|refine cX ?_ ?_<;>intro hc<;>try simp only[dE] at hc|refine blK ?_|refine exW ?_|refine skW ?_|refine rtW ?_)
   · refine⟨.inr rfl,Ent.b (Eq.symm ?_)⟩;rw[zAj] at hc;rw[hs] at hc;by_cases hm:(l.getD k default).id∈(l.take k).map (fun b=>b.id)
     · exact sX hlt hm
     · refine sW hlt ?_;rw[decide_eq_false hm] at hc;simpa using hc
   · rw[zAj] at hc;rw[hs] at hc;simp only[zAl,zB0] at hc;have hm:(l.getD k default).id∉(l.take k).map (fun b=>b.id):=of_decide_eq_false hc.2;refine⟨k+1,⟨oM,fun j hj=>bA aT hc.1 hj,(fi _ l k hlt).2 ⟨hnd,hm⟩⟩,oM,⟨rfl,rfl,rfl,rfl,rfl,tI⟩,?_⟩;rw[←lS _ l k hlt hm];rfl
   · exfalso;omega
 · repeat' (first|refine qT ?_|apply sqW|refine rgK fun U V=>?_|(refine aN V ?_;clear V U)|refine aS ?_|refine aA ?_|refine cX ?_ ?_<;>intro hc<;>try simp only[dE] at hc|refine blK ?_|refine exW ?_|refine skW ?_|refine rtW ?_)
   · exfalso;omega
   · refine⟨.inr rfl,Ent.b ?_⟩;have htk:l.take k=l:=zAn oM;rw[htk] at hnd;unfold bP;rw[oI fun j hj=>aT j oM,decide_eq_true hnd];rw[zB3];simp;omega
end Go.Proofs.YtmjdoencpjpegaaGreatDoor.Mk
namespace Go.Proofs.YtmjdoencpjpegaaGreatDoor.Cy
open Go.Ab Go.Sort Al Mk
attribute [local irreducible] AWP AOps EStep AQ PStep PRun PCall TCall VCall
def dF (f:Jo.Mark→Option Jo.Mark) (l:List Jo.Mark):List Jo.Mark:=l.filterMap f
def dR (f:Jo.Mark→Option Jo.Mark) (l:List Jo.Mark):List Jo.Mark:=l.filter fun m=>(f m).isNone
theorem Bo {f:Jo.Mark→Option Jo.Mark} {l:List Jo.Mark} {k:Nat} (h:k<l.length) {m x:Jo.Mark} (hm:l.getD k default=m) (hx:f m=some x):dF f (l.take (k+1))=dF f (l.take k)++[x]∧dR f (l.take (k+1))=dR f (l.take k):=by
 unfold dF dR;rw[jK h,hm,zCl,zCj];simp[hx]
theorem D7 {f:Jo.Mark→Option Jo.Mark} {l:List Jo.Mark} {k:Nat} (h:k<l.length) {m:Jo.Mark} (hm:l.getD k default=m) (hx:f m=none):dF f (l.take (k+1))=dF f (l.take k)∧dR f (l.take (k+1))=dR f (l.take k)++[m]:=by
 unfold dF dR;rw[jK h,hm,zCl,zCj];simp[hx]
theorem Bp (f:Jo.Mark→Option Jo.Mark) (l:List Jo.Mark):(dF f l).length≤l.length:=zD8 _ _
theorem Gr (f:Jo.Mark→Option Jo.Mark) (l:List Jo.Mark):(dR f l).length≤l.length:=zBm _ _
def AO (P H:List Jo.Mark):Fin 4→aF
 |0=>.var [.sl 10 (P.map aJ) (.own 2)]
 |1=>.var [.sl 10 (H.map aJ) (.own 3)]
 |2=>.own 10 (P.map aJ).length
 |3=>.own 10 (H.map aJ).length
theorem yd (P H:List Jo.Mark):qn (AO P H 0) (AO P H 1) (AO P H 2) (AO P H 3):=fun m hm=>by
 refine⟨?_,?_,rfl,rfl⟩
 · show(decide (2<m)&&true)=true;rw[decide_eq_true oM];rfl
 · show(decide (3<m)&&true)=true;rw[decide_eq_true oM];rfl
def AS (P H:List Jo.Mark) (l:List Score) (to:Score) (al:List (Int×PL)):aa:=jq (AO P H 0) (AO P H 1) (AO P H 2) (AO P H 3) l to al++[.var [.ptr 8 0]]
theorem ye (P H:List Jo.Mark) (l:List Score) (to:Score) (al:List (Int×PL)):(AS P H l to al).all (ak 10)=true:=by
 unfold AS;rw[zBs,im (yd P H) dCd];rfl
def putQ (f:Jo.Mark→Option Jo.Mark) (P H:List Jo.Mark) (l:List Score) (v0:Int) (to:Score) (m:Jo.Mark) (r:AV) (s:aa):Prop :=
 r=.int 0∧∃al,gm l v0 to al∧s=AS (match f m with|some x=>P++[x]|none=>P) (match f m with|some _=>H|none=>H++[m]) l to al
theorem IG (P H:List Jo.Mark) (hP:P.length≤1000000) (hH:H.length≤1000000) (l:List Score) (hl:l.length≤1000000) (hgd:∀s∈l,Good s) (v0:Int) (to:Score) (hto:Good to) (al:List (Int×PL)) (hm:gm l v0 to al) (m:Jo.Mark) :
 TCall Tryz.prog 93 [.agg (aJ m),.ptr 9 0,.ptr 0 0,.ptr 1 0] (AS P H l to al) (putQ (bH l v0 to) P H l v0 to m):=by
 have hc1:=TCall.val (first:=[]) (aM:=[]) (avs:=[.ptr 8 0,.agg (aJ m)]) (TCall.frame (vw (yd P H) l hl hgd v0 to hto al hm m) [.var [.ptr 8 0],.var (aJ m)] (im (yd P H) (nLr _) l to al) rfl (fun rv s h=>by obtain⟨_,al',_,h⟩:=h;rw[h];rfl));refine TCall.body Tryz.func93 rfl rfl Tryz.ntmps93 rfl rfl ?_
 repeat' (first|refine qS ?_|apply sqW|refine rgK fun U V=>?_|(refine aN V ?_;clear V U)|refine aB ?_|refine aoE (scT (hc1) rfl rfl rfl rfl rfl nd rfl rfl nds ?_))
 rintro _ _ ⟨σ',rfl,rfl,al2,hm2,rfl⟩;clear hc1;cases hcm:bH l v0 to m with
 | none =>
   repeat' (first|refine qP ?_ (h:=fun hg=>by first|exact ae|exact pbS ab rfl rfl nds|exact ah)|apply sqW|refine rgK fun U V=>?_|(refine aN V ?_;clear V U)|refine aS ?_|refine aA ?_|refine aoE (apO ab rfl rfl rfl dCd (Rd.w rfl tI) rfl (Rd.w rfl tI) (.sl rfl (by first|(intro x hx;rcases zA9.1 hx with rfl;rfl)|exact one_encMk' _)) (lkG rfl) (lkG rfl) rfl rfl (by simp only[lLm,lLa,zAc,zAi,zAg,zAx];omega) (by simp only[lLm,lLa,zAc,zAi,zAg,zAx];omega) ?_)|refine cX ?_ ?_<;>intro hc<;>try simp only[dE] at hc|refine blK ?_|refine rtW ?_)
   all_goals (first|exact dd|skip)
   refine⟨.inr rfl,_,AS P (H++[m]) l to al2,⟨rfl,al2,hm2,by rw[hcm]⟩,?_,nLr _,ye _ _ _ _ _,rfl,rfl⟩;unfold AS AO;rw[zAz];rfl
 | some x =>
   repeat' (first|refine qP ?_ (h:=fun hg=>by first|exact ae|exact pbS ab rfl rfl nds|exact ah)|apply sqW|refine rgK fun U V=>?_|(refine aN V ?_;clear V U)|refine aS ?_|refine aA ?_|refine aoE (apO ab rfl rfl rfl dCd (Rd.w rfl tI) rfl (Rd.w rfl tI) (.sl rfl (by first|(intro x hx;rcases zA9.1 hx with rfl;rfl)|exact one_encMk' _)) (lkG rfl) (lkG rfl) rfl rfl (by simp only[lLm,lLa,zAc,zAi,zAg,zAx];omega) (by simp only[lLm,lLa,zAc,zAi,zAg,zAx];omega) ?_)|refine cX ?_ ?_<;>intro hc<;>try simp only[dE] at hc|refine blK ?_|refine rtW ?_)
   all_goals (first|exact dd|skip)
   refine⟨.inr rfl,_,AS (P++[x]) H l to al2,⟨rfl,al2,hm2,by rw[hcm]⟩,?_,nLr _,ye _ _ _ _ _,rfl,rfl⟩;unfold AS AO;rw[zAz];rfl
def vE (l:List Score) (ms:List Jo.Mark) (v:Int):Bool:=iH v&&(bP ms&&cW l)
def jo (l:List Score) (ms:List Jo.Mark) (v:Int):(List Jo.Mark×List Jo.Mark)×Int :=
 if vE l ms v=true then (if bL l v<0 then (([],[]),32) else ((dF (bH l v (atS l (bL l v).toNat)) ms,dR (bH l v (atS l (bL l v).toNat)) ms),0)) else (([],[]),1)
def rV (r:(List Jo.Mark×List Jo.Mark)×Int):AV:=.tup [.sl 10 (r.1.1.map aJ) .no,.sl 10 (r.1.2.map aJ) .no,.int r.2]
theorem vF (e:Int):Ent (.tup [.nils,.nils,.int e]) (rV (([],[]),e)):=Ent.tup rfl fun i u v hu hv=>by
 match i,hu,hv with
 |0,hu,hv=>cases hu;cases hv;exact Ent.nil
 |1,hu,hv=>cases hu;cases hv;exact Ent.nil
 |2,hu,hv=>cases hu;cases hv;exact Ent.cB _
 |i+3,hu,hv=>cases hu
theorem IH (l:List Score) (hl:l.length≤1000000) (hf:∀s∈l,dt s=true) (ms:List Jo.Mark) (hms:ms.length≤1000000) (ht:lu ms) (v:Int) :
 PCall Tryz.prog 44 [.sl 4 (l.map encS) .no,.sl 10 (ms.map aJ) .no,.int v] (rV (jo l ms v)):=by
 have hsm:∀s∈l,s.Small:=fun s hs=>gA (hf s hs)
 have v1:=qB v;have v2:=wC ms oM ht;have v3:=nt l oM hsm;have hv:=TCall.val (first:=[]) (aM:=[]) (avs:=[.sl 4 (l.map encS) .no,.int v]) (oc (yd [] []) l hl hsm v);refine PCall.bO ab Tryz.func44 rfl rfl Tryz.ntmps44 rfl ?_
 repeat' (first|refine sqW ?_)
 refine rgK fun U V=>?_
 refine aA ?_;refine aA ?_;refine qP ?_ (h:=fun hg=>ae);refine aoN (V _ _ ?_);clear V U;show AWP _ _ _ _ _ [.var [.nils],.var [.nils]];refine AWP.j5 (v:=0) (i:=0) (sz:=10) rfl rfl ?_;refine AWP.j5 (v:=1) (i:=0) (sz:=10) rfl rfl ?_;show AWP _ _ _ _ _ [AO [] [] 0,AO [] [] 1,AO [] [] 2,AO [] [] 3];by_cases hok:vE l ms v=true
 · have hR:jo l ms v=if bL l v<0 then (([],[]),32) else ((dF (bH l v (atS l (bL l v).toNat)) ms,dR (bH l v (atS l (bL l v).toNat)) ms),0):=if_pos hok
   unfold vE at hok;simp only[zA0] at hok;obtain⟨o1,o2,o3⟩:=hok;have hgd:=xt o3 hf;rw[o1] at v1;rw[o2] at v2;rw[o3] at v3
   repeat' (first|refine qP ?_ (h:=fun hg=>by first|exact ae|exact pc v1|exact pc v2|exact pc v3|exact ah)|apply sqW|refine rgK fun U V=>?_|(refine aN V ?_;clear V U)|refine aS ?_|refine aoE (scT (hv) rfl rfl rfl rfl rfl nd rfl rfl nds ?_)|refine cX ?_ ?_<;>intro hc<;>try simp only[dE] at hc|refine skW ?_|refine rtW ?_)
   all_goals (first|exact dd|skip)
   intro r s hr;unfold ncR at hr;clear hv;split at hr
   · rename_i oy;obtain⟨rfl,rfl⟩:=hr
     repeat' (first|refine qT ?_|apply sqW|refine rgK fun U V=>?_|(refine aN V ?_;clear V U)|refine aS ?_|refine aA ?_|refine cX ?_ ?_<;>intro hc<;>try simp only[dE] at hc|refine blK ?_|refine skW ?_|refine rtW ?_)
     all_goals (first|exact dd|skip)
     rw[hR,if_pos oy];exact⟨.inr rfl,_,rfl,vF 32⟩
   · rename_i oy;obtain⟨rfl,rfl⟩:=hr;rw[if_neg oy] at hR;obtain⟨k,hk,hlt,_⟩:=iZ oy;rw[hk,zAj] at hR ⊢;have hto:Good (atS l k):=hgd _ (bT hlt);have hm0:=gm.first l v (atS l k);generalize atS l k=to at *
     repeat' (first|refine qT ?_|apply sqW|refine rgK fun U V=>?_|(refine aN V ?_;clear V U)|refine aS ?_|refine aA ?_|refine cX ?_ ?_<;>intro hc<;>try simp only[dE] at hc|refine blK ?_|refine skW ?_|refine rtW ?_)
     all_goals (first|exact dd|skip)
     refine lpD (ι:=Nat×List (Int×PL)) (fun q=>[(6,.ptr 0 0),(7,.ptr 1 0),(10,.fn (.func 93) [] [.ptr 9 0,.ptr 0 0,.ptr 1 0]),(37,.sl 10 (ms.map aJ) .no),(38,.int ms.length),(39,.int q.1)]) (fun q=>AS (dF (bH l v to) (ms.take q.1)) (dR (bH l v to) (ms.take q.1)) l to q.2)
      (fun q=>q.1≤ms.length∧gm l v to q.2) (fun q=>ms.length - q.1) 10 (fun _=>rfl) (0,_) ⟨nZl _,hm0⟩ ⟨rfl,rfl,rfl,rfl,rfl,rfl,tI⟩ rfl (fun _ _=>rfl) (fun q _=>ye _ _ _ _ _) ?_
     rintro⟨k,al⟩ ⟨hk,hma⟩;dsimp only at hk hma ⊢;have lp:=Bp (bH l v to) (ms.take k);have lh:=Gr (bH l v to) (ms.take k);rw[zAg] at lp lh;by_cases hlt:k<ms.length
     · obtain⟨m,hm⟩:∃m,ms.getD k default=m:=⟨_,rfl⟩
       have hy:=fun x=>Bo (f:=bH l v to) (x:=x) hlt hm
       have hn:=D7 (f:=bH l v to) hlt hm;have hp:=TCall.val (first:=[]) (aM:=[.ptr 9 0,.ptr 0 0,.ptr 1 0]) (avs:=[.agg (aJ m)]) (TCall.frame (IG (dF (bH l v to) (ms.take k)) (dR (bH l v to) (ms.take k)) oM oM l hl hgd v to hto al hma m) [.var (aJ m)] (ye _ _ _ _ _) rfl (fun rv s h=>by obtain⟨_,al',_,h⟩:=h;rw[h];rfl));generalize dF (bH l v to) (ms.take k)=P at *;generalize dR (bH l v to) (ms.take k)=H at *
       repeat' (first|refine qP ?_ (h:=fun hg=>by first|exact iX aJ ms ((k:Nat):Int) hm (hb:=oM)|exact ae|exact ah)|apply sqW|refine rgK fun U V=>?_|(refine aN V ?_;clear V U)|refine aS ?_|refine aA ?_|refine aoE (scT (hp) rfl rfl rfl rfl rfl nd rfl rfl nds ?_)|refine cX ?_ ?_<;>intro hc<;>try simp only[dE] at hc|refine blK ?_|refine exW ?_|refine skW ?_)
       all_goals (first|exact dd|skip)
       rintro _ _ ⟨σ',rfl,rfl,al2,hm2,rfl⟩;clear hp;cases hcm:bH l v to m with
       | none =>
         obtain⟨h1,h2⟩:=hn hcm
         repeat' (first|refine qS ?_|apply sqW|refine rgK fun U V=>?_|(refine aN V ?_;clear V U)|refine aS ?_|refine cX ?_ ?_<;>intro hc<;>try simp only[dE] at hc|refine skW ?_|refine rtW ?_)
         all_goals (first|exact dd|skip)
         exact⟨(k+1,al2),⟨hlt,hm2⟩,by show ms.length - (k+1)<ms.length - k;omega,⟨rfl,rfl,rfl,rfl,rfl,rfl,tI⟩,by show _=AS (dF (bH l v to) (ms.take (k+1))) (dR (bH l v to) (ms.take (k+1))) l to al2;rw[h1,h2];rfl⟩
       | some x =>
         obtain⟨h1,h2⟩:=hy x hcm
         repeat' (first|refine qS ?_|apply sqW|refine rgK fun U V=>?_|(refine aN V ?_;clear V U)|refine aS ?_|refine cX ?_ ?_<;>intro hc<;>try simp only[dE] at hc|refine skW ?_|refine rtW ?_)
         all_goals (first|exact dd|skip)
         exact⟨(k+1,al2),⟨hlt,hm2⟩,by show ms.length - (k+1)<ms.length - k;omega,⟨rfl,rfl,rfl,rfl,rfl,rfl,tI⟩,by show _=AS (dF (bH l v to) (ms.take (k+1))) (dR (bH l v to) (ms.take (k+1))) l to al2;rw[h1,h2];rfl⟩
     · obtain rfl:k=ms.length:=oM;rw[zB2];generalize dF (bH l v to) ms=P at *;generalize dR (bH l v to) ms=H at *
       repeat' (first|refine qT ?_|apply sqW|refine rgK fun U V=>?_|(refine aN V ?_;clear V U)|refine aS ?_|refine aA ?_|refine cX ?_ ?_<;>intro hc<;>try simp only[dE] at hc|refine blK ?_|refine exW ?_|refine skW ?_)
       all_goals (first|exact dd|skip)
       refine AWP.gj dJ (fun _=>AS P H l to al) rfl (by kernel_rfl) dKn rfl dKn (fun U V=>?_)
       repeat' (first
        |refine yt (hk:=?_)|fail)
       refine YQ.e (v:=.any) (d:=none) rfl rfl rfl ?_ ?_
       · intro au he;exact stW ab rfl rfl ((ai (he 6 dKn)).trans rfl) (by rw[aj (he 6 dKn)];first|exact tI|exact rfl) rfl ((ai (he 50 dKn)).trans rfl) (by rw[aj (he 50 dKn)];first|exact tI|exact rfl) rfl rfl rfl rfl rfl rfl rfl ⟨rfl,rfl⟩
       repeat' (first
        |refine yt (hk:=?_)|fail)
       refine YQ.e (v:=.any) (d:=none) rfl rfl rfl ?_ ?_
       · intro au he;exact stW ab rfl rfl ((ai (he 7 dKn)).trans rfl) (by rw[aj (he 7 dKn)];first|exact tI|exact rfl) rfl ((ai (he 51 dKn)).trans rfl) (by rw[aj (he 51 dKn)];first|exact tI|exact rfl) rfl rfl rfl rfl rfl rfl rfl ⟨rfl,rfl⟩
       repeat' (first
        |refine yt (hk:=?_)|fail)
       refine YQ.nil (V _ _ ?_);clear V U;show AWP _ _ _ _ _ (AS P H l to al)
       repeat' (first|refine rtW ?_)
       rw[hR];exact⟨.inr rfl,_,rfl,Ent.of rfl⟩
 · have hR:jo l ms v=(([],[]),1):=if_neg hok;have hno:(iH v&&(bP ms&&cW l))=false:=by
    cases h:(iH v&&(bP ms&&cW l)) with
    |false=>rfl
    |true=>exact absurd h hok
   clear hv hok;generalize iH v=s1 at *;generalize bP ms=s2 at *;generalize cW l=s3 at *
   repeat' (first|refine qP ?_ (h:=fun hg=>by first|exact ae|exact pc v1|exact pc v2|exact pc v3|exact ah)|apply sqW|refine rgK fun U V=>?_|(refine aN V ?_;clear V U)|refine aS ?_|refine cX ?_ ?_<;>intro hc<;>try simp only[dE] at hc|refine skW ?_|refine rtW ?_)
   all_goals (first|(rw[hR];exact⟨.inr rfl,_,rfl,vF 1⟩)|(exfalso;cases s1<;>cases s2<;>cases s3<;>simp at hc hno)|(rename_i h0;exfalso;cases s1<;>cases s2<;>cases s3<;>simp at h0 hno))
end Go.Proofs.YtmjdoencpjpegaaGreatDoor.Cy
namespace Go.Proofs.YtmjdoencpjpegaaGreatDoor.Cy
open Go.Ab Go.Sort Al Mk
theorem Gs {s:Score} (h:aQ s=true):((eT s).map (·.1)).Nodup:=by
 unfold eT;rw[zCo];exact(x6 h).notes
theorem Mo {s:Score} (h:aQ s=true) (id:Int):lk (cO [] (eT s)) id=if dO s.notes id<0 then none else some id:=by
 split
 · rename_i hn;rw[wB]
   · rfl
   · intro p hp e;obtain⟨n,hn2,rfl⟩:=zAf.1 hp;have:=FF (p:=fun x:ag=>x.id==id) (l:=s.notes);have h2:=this.2 ⟨n,hn2,by simpa using e⟩;unfold dO at hn;omega
 · rename_i hn;obtain⟨k,_,h2,h3,_⟩:=eh (p:=fun x:ag=>x.id==id) (l:=s.notes) (by unfold dO at hn;omega);refine oD (Gs h) (zAf.2 ⟨_,bT h2,?_⟩);have e:(s.notes.getD k default).id=id:=by simpa using h3
   rw[e]
def rW (s to:Score):PL:=hZ s to (np (dD (aw s to) s.bars.length to.bars.length))
theorem rX {s to:Score} (hs:aQ s=true) (ht:aQ to=true):OutF s to (np (dD (aw s to) s.bars.length to.bars.length)) (rW s to):=by
 have hpo:=(wX (aw s to) s.bars.length to.bars.length).1;exact FZ (x6 hs) (x6 ht) (C6 hpo)
theorem vg {l:List Jo.Mark} (h:bP l=true) {m:Jo.Mark} (hm:m∈l):Jo.bc m=true:=by
 unfold bP at h;simp only[zA0,dEt,zA6] at h;exact h.1.1 m hm
theorem Ci {s:Score} (h:aQ s=true) {n:ag} (hn:n∈s.notes):1≤n.id:=by
 obtain⟨_,_,_,h4,_⟩:=mX h;obtain⟨_,_,h6⟩:=ou h4;obtain⟨j,_,_,h7⟩:=tM (h6 n hn);unfold gJ fits iM si fQ inB at h7;simp only[zA0,dEt] at h7;omega
def toN (l:List Score) (v:Int) (to:Score) (w id:Int):Option Int:=lk (jV l v to w) id
theorem La {l:List Score} {v:Int} {to:Score} (ht:aQ to=true) (id:Int):toN l v to v id=if dO to.notes id<0 then none else some id:=by
 unfold toN jV;rw[if_pos rfl];exact Mo ht id
theorem Mp {l:List Score} {v w:Int} {to:Score} (hw:w≠v) (hf:bL l w<0) (id:Int):toN l v to w id=none:=by
 unfold toN jV rR;rw[if_neg hw,if_pos hf];rfl
theorem Mq {l:List Score} {v w:Int} {to:Score} (hw:w≠v) {k:Nat} (hf:bL l w=k) (id:Int):toN l v to w id=lk (cO [] (rW (atS l k) to)) id:=by
 unfold toN jV rR rW;rw[if_neg hw,if_neg oM,hf,zAj]
theorem II {s to:Score} (hs:aQ s=true) (ht:aQ to=true) {a b:Int}:lk (cO [] (rW s to)) a=some b↔(a,b)∈rW s to:=by
 constructor
 · intro h;rcases Ai h with h|h
   · cases h
   · exact h
 · exact fun h=>oD (rX hs ht).fst h
theorem vG {l:List ag} {id:Int} {i:Nat} (hi:i<l.length) (h:dO l id=i):(l.getD i default).id=id:=by
 obtain⟨k,hk,h2,h3,_⟩:=eh (p:=fun x:ag=>x.id==id) (l:=l) (by unfold dO at h;omega);have:k=i:=by unfold dO at h;omega
 subst this;simpa using h3
theorem IJ {l:List Score} {v w:Int} {to:Score} (hgd:∀s∈l,aQ s=true) (ht:aQ to=true) {k:Nat} (hk:bL l v=k) (hto:atS l k=to) {id n:Int} (h:toN l v to w id=some n) :
 ∃i a b:Nat,bL l w=i∧i<l.length∧dO (atS l i).notes id=a∧a<(atS l i).notes.length∧dO to.notes n=b∧b<to.notes.length∧((atS l i).notes.getD a default).part=(to.notes.getD b default).part∧1≤n:=by
 by_cases hw:w=v
 · subst hw;rw[La ht] at h;split at h
   · cases h
   · rename_i hn;cases h;obtain⟨k2,hk2,hlt,_⟩:=iZ (l:=l) (v:=w) oM;have:k2=k:=oM;subst this;obtain⟨j,hj,h2,h3,_⟩:=eh (p:=fun x:ag=>x.id==id) (l:=to.notes) (by unfold dO at hn;omega);refine⟨k2,j,j,hk,hlt,by rw[hto];exact hj,by rw[hto];exact h2,hj,h2,by rw[hto],?_⟩;have e:(to.notes.getD j default).id=id:=by simpa using h3
     rw[←e];exact Ci ht (bT h2)
 · by_cases hf:bL l w<0
   · rw[Mp hw hf] at h;cases h
   · obtain⟨i,hi,hlt,_⟩:=iZ hf;have hs:aQ (atS l i)=true:=hgd _ (bT hlt);rw[Mq hw hi,II hs ht] at h;obtain⟨a,b,h1,h2,h3,h4,h5,_⟩:=(rX hs ht).of _ h;refine⟨i,a,b,hi,hlt,h3,h1,h4,h2,h5,?_⟩;have:=vG h2 h4;dsimp only at this;rw[←this];exact Ci ht (bT h2)
theorem Gt (l:List Score) (v:Int) (to:Score) (m:Jo.Mark):bH l v to m=(toN l v to m.version m.note).map fun n=>{ m with version:=to.version,note:=n }:=rfl
theorem xu {l:List Score} (hv:cW l=true) {m:Jo.Mark} (hm:Jo.bc m=true) {v:Int} (hn:iH v=true) {k:Nat} (hk:bL l v=k):o9 l m v=(bH l v (atS l k) m,0):=by
 unfold o9;rw[if_pos (show vC l m v=true by unfold vC;rw[hn,hm,hv];rfl),if_neg (by rw[hk];omega),hk,zAj]
theorem sH {s:Score} (h:aQ s=true):iH s.version=true:=by
 have:=(mX h).1;unfold inB at this;unfold iH;simpa using this
theorem wD {l:List Score} (h:cW l=true):∀{i k:Nat},i<k→k<l.length→(atS l i).version<(atS l k).version:=by
 unfold cW at h;simp only[zA0,zA6] at h;have step:∀j,j+1<l.length→(atS l j).version<(atS l (j+1)).version:=fun j hj=>by
  have h1:=h.2 (j+1) (zBk.2 hj);unfold kR at h1;simp only[zA0,zBn,dEt,beq_iff_eq] at h1;rcases h1.2 with h2|h2
  · omega
  · exact h2
 intro i k hik hk;induction k with
 |zero=>omega
 | succ k ih =>
   rcases nLg i k with g|g
   · have:=ih g oM;have:=step k hk;omega
   · obtain rfl:i=k:=oM;exact step i hk
theorem kT {l:List Score} (h:cW l=true) {k:Nat} (hk:k<l.length):bL l (atS l k).version=k :=
 eP hk (by simp[atS]) fun j hj=>by
  have:=wD h hj hk;unfold atS at this;simp only[beq_eq_false_iff_ne,ne_eq];unfold atS;omega
end Go.Proofs.YtmjdoencpjpegaaGreatDoor.Cy
namespace Go.Proofs.YtmjdoencpjpegaaGreatDoor.Top
open Go.Ab Go.Jo Go.Sort Al Mk Cy
def bw (l:List Jo.Mark) (id:Int):Nat:=l.countP fun m=>m.id==id
theorem Cj {l:List Jo.Mark} (h:(l.map (·.id)).Nodup) {m:Jo.Mark} (hm:m∈l):bw l m.id=1:=by
 induction l with
 |nil=>cases hm
 | cons x l ih =>
   rw[zBd,zC1] at h;unfold bw at ih ⊢;rw[List.countP_cons];rcases zAw.1 hm with rfl|hm
   · have:l.countP (fun y=>y.id==m.id)=0:=by
      rw[List.countP_eq_zero];intro y hy;simp only[beq_iff_eq];exact fun e=>h.1 (zAf.2 ⟨y,hy,e⟩)
     rw[this];simp
   · rw[ih h.2 hm];have:(x.id==m.id)=false:=by
      simp only[beq_eq_false_iff_ne,ne_eq];exact fun e=>h.1 (zAf.2 ⟨m,hm,e.symm⟩)
     rw[this];simp
theorem nv {l:List Jo.Mark} {id:Int} (h:∀m∈l,m.id≠id):bw l id=0:=by
 unfold bw;rw[List.countP_eq_zero];intro y hy;simpa using h y hy
theorem IK (x:Jo.Mark) (l:List Jo.Mark) (id:Int):bw (x::l) id=bw l id+if x.id=id then 1 else 0:=by
 unfold bw;rw[List.countP_cons];by_cases h:x.id=id<;>simp[h]
theorem wE {I:List Int} (hn:I.Nodup):∀{L:List Jo.Mark},(∀m∈L,m.id∈I)→(I.map (bw L)).sum=L.length
 | [], _ => by
   have:I.map (bw [])=I.map fun _=>0:=rfl
   rw[this];clear this hn;induction I<;>simp_all
 | x :: L, h => by
   have ih:=wE hn (L:=L) fun m hm=>h m (zAk _ hm)
   have e:I.map (bw (x::L))=I.map fun i=>bw L i+if x.id=i then 1 else 0:=zCs fun i _=>IK x L i
   have one:∀J:List Int,J.Nodup→(J.map fun i=>if x.id=i then 1 else 0).sum=if x.id∈J then 1 else 0:=fun J=>by
    induction J with
    |nil=>intro _;rfl
    | cons a J ih =>
      intro hJ;rw[zC1] at hJ;rw[zBd,List.sum_cons,ih hJ.2];by_cases ha:x.id=a
      · subst ha;simp[hJ.1]
      · simp[ha]
   have add:∀J:List Int,(J.map fun i=>bw L i+if x.id=i then 1 else 0).sum=(J.map (bw L)).sum+(J.map fun i=>if x.id=i then 1 else 0).sum:=fun J=>by
    induction J with
    |nil=>rfl
    |cons a J ih=>simp only[zBd,List.sum_cons,ih];omega
   rw[e,add,one I hn,if_pos (h x (zAr ..)),ih,zAc]
def behind (shown:List Jo.Mark) (y:Jo.Mark):Bool:=shown.any fun z=>(z.note==y.note&&z.kind==y.kind)&&z.id != y.id&&(en z y).2==0&&(en z y).1
def D8 (who:Rdr) (p:Part) (sI:Int→Bool) (shown held:List Jo.Mark) (m:Jo.Mark) (c:Option Jo.Mark):Bool :=
 match c with
 |none=>bw shown m.id==0&&(((bw held m.id==1)==(bp m p who).1)&&decide (bw held m.id≤1))
 | some y => !(shown.any fun z => z.id == m.id && z != y) &&
   (if (bp m p who).1&&sI y.note then bw held m.id==0&&((bw shown m.id==1&&!behind shown y)||(bw shown m.id==0&&behind shown y)) else bw held m.id==0&&bw shown m.id==0)
structure Fr (l:List Score) (k:Nat) (sc:Score) (who:Rdr) (kp:Nat) (p:Part) (ms:List Jo.Mark):Prop where
 mf:cW l=true
 kl:k<l.length
 at_:atS l k=sc
 ok:aQ sc=true
 gd:∀s∈l,aQ s=true
 rdr:cu who=true
 pi:jh sc who.part=kp
 pl:kp<sc.parts.length
 pat:sc.parts.getD kp default=p
 pid:p.id=who.part
 cY:¬p.jg<who.cY
 marks:bP ms=true
section
variable {l:List Score} {k:Nat} {sc:Score} {who:Rdr} {kp:Nat} {p:Part} {ms:List Jo.Mark}
abbrev gB (l:List Score) (sc:Score):Jo.Mark→Option Jo.Mark:=bH l sc.version sc
abbrev eo (l:List Score) (sc:Score) (ms:List Jo.Mark):List Jo.Mark:=dF (gB l sc) ms
abbrev bM (l:List Score) (sc:Score) (who:Rdr) (p:Part) (ms:List Jo.Mark):List Jo.Mark:=dP (mW sc (eo l sc ms) p who) (aL sc.notes p)
abbrev eX (l:List Score) (sc:Score) (who:Rdr) (p:Part) (ms:List Jo.Mark):List Jo.Mark:=(dR (gB l sc) ms).filter fun m=>(bp m p who).2==0&&(bp m p who).1
theorem IL {s:Score} (h:aQ s=true) {n:ag} (hn:n∈s.notes):n.id≤1000000:=by
 obtain⟨_,_,_,h4,_⟩:=mX h;obtain⟨_,_,h6⟩:=ou h4;obtain⟨j,_,_,h7⟩:=tM (h6 n hn);unfold gJ fits iM si fQ inB at h7;simp only[zA0,dEt] at h7;omega
theorem jW (F:Fr l k sc who kp p ms) {m y:Jo.Mark} (h:gB l sc m=some y) (hm:bc m=true):y={ m with version:=sc.version,note:=y.note }∧bc y=true:=by
 have h0:bH l sc.version sc m=some y:=h;rw[Gt] at h0;simp only[zA5] at h0;obtain⟨n,h1,rfl⟩:=h0;refine⟨rfl,?_⟩;have hfv:bL l sc.version=k:=by rw[←F.at_];exact kT F.mf F.kl
 obtain⟨_,_,b,_,_,_,_,hb,hbl,_,hn1⟩:=IJ F.gd F.ok hfv F.at_ h1;have hid:(sc.notes.getD b default).id=n:=vG hbl hb;have hn2:n≤1000000:=by rw[←hid];exact IL F.ok (bT hbl)
 have hv:=sH F.ok;unfold iH at hv;simp only[zA0,dEt] at hv;unfold bc cg inR at hm ⊢;simp only[zA0,dEt] at hm ⊢;obtain⟨⟨⟨⟨⟨⟨⟨a1,a2⟩,a3⟩,a4⟩,a5⟩,a6⟩,a7⟩,a8⟩:=hm;exact⟨⟨⟨⟨⟨⟨⟨a1,a2⟩,a3⟩,hv⟩,hn1,hn2⟩,a6⟩,a7⟩,a8⟩
theorem l5 (F:Fr l k sc who kp p ms):(ms.map (·.id)).Nodup:=xI F.marks
theorem od (F:Fr l k sc who kp p ms) {z:Jo.Mark} (h:z∈eo l sc ms):∃a∈ms,gB l sc a=some z∧z.id=a.id:=by
 obtain⟨a,h1,h2⟩:=zCh.1 h;exact⟨a,h1,h2,by have:=(jW F h2 (Mk.ch F.marks h1)).1;rw[this]⟩
theorem eK (F:Fr l k sc who kp p ms):((eo l sc ms).map (·.id)).Nodup:=by
 have h:∀L:List Jo.Mark,(∀m∈L,m∈ms)→(L.map (·.id)).Nodup→((L.filterMap (gB l sc)).map (·.id)).Nodup:=fun L=>by
  induction L with
  |nil=>intro _ _;simp
  | cons x L ih =>
    intro hs hn;rw[zBd,zC1] at hn;have ih2:=ih (fun m hm=>hs m (zAk _ hm)) hn.2;rw[zE7];cases hx:gB l sc x with
    |none=>exact ih2
    | some y =>
      simp only;rw[zBd,zC1];refine⟨fun hc=>?_,ih2⟩;obtain⟨z,hz,e⟩:=zAf.1 hc;obtain⟨a,ha,h2⟩:=zCh.1 hz;have e1:=(jW F h2 (Mk.ch F.marks (hs a (zAk _ ha)))).1;have e2:=(jW F hx (Mk.ch F.marks (hs x (zAr ..)))).1;have:a.id=x.id:=by
       have q1:z.id=a.id:=by rw[e1]
       have q2:y.id=x.id:=by rw[e2]
       rw[←q1,e,q2]
      exact hn.1 (zAf.2 ⟨a,ha,this⟩)
 exact h ms (fun _ h=>h) (l5 F)
theorem oe (F:Fr l k sc who kp p ms):bP (eo l sc ms)=true:=by
 unfold bP;simp only[zA0,dEt,zA6];refine⟨⟨fun z hz=>?_,eK F⟩,?_⟩
 · obtain⟨a,h1,h2⟩:=zCh.1 hz;exact(jW F h2 (Mk.ch F.marks h1)).2
 · have h1:=F.marks;unfold bP at h1;simp only[zA0,dEt] at h1;exact zBu (zD8 _ _) h1.2
theorem jX (F:Fr l k sc who kp p ms) {z:Jo.Mark} (h:z∈bM l sc who p ms):z∈eo l sc ms∧forM z p.aV who=true∧∃n∈aL sc.notes p,n.id=z.note:=by
 obtain⟨n,hn,kd,hk,hf⟩:=p8.1 h;obtain⟨h1,⟨h2,_⟩,_,h4⟩:=ow (eK F) hf;exact⟨h1,h4,n,hn,h2.symm⟩
theorem vH (F:Fr l k sc who kp p ms):((bM l sc who p ms).map HQ).Nodup :=
 nW (fun n kd m h=>(ow (eK F) h).2.1) _ (rG (qA F.ok) p)
theorem xw (F:Fr l k sc who kp p ms):((bM l sc who p ms).map (·.id)).Nodup:=by
 have hk:=vH F;have IM:∀z∈bM l sc who p ms,z∈eo l sc ms:=fun z hz=>(jX F hz).1
 have hp:=eK F;generalize bM l sc who p ms=L at *;generalize eo l sc ms=Q at *;induction L with
 |nil=>simp
 | cons x L ih =>
   rw[zBd,zC1] at hk ⊢;refine⟨fun hc=>?_,ih hk.2 fun z hz=>IM z (zAk _ hz)⟩;obtain⟨z,hz,e⟩:=zAf.1 hc;have:z=x:=fF (f:=(·.id)) hp (IM z (zAk _ hz)) (IM x (zAr ..)) e;exact hk.1 (zAf.2 ⟨z,hz,by rw[this]⟩)
theorem Ck {α β:Type} {f:α→β}:∀{l:List α},(l.map f).Nodup→∀{x y:α},x∈l→y∈l→f x=f y→x=y
 |[],_,_,_,h,_,_=>by cases h
 | z :: l, hn, x, y, hx, hy, e => by
   rw[zBd,zC1] at hn;rcases zAw.1 hx with rfl|h1<;>rcases zAw.1 hy with rfl|h2
   · rfl
   · exact absurd (zAf.2 ⟨y,h2,e.symm⟩:f x∈l.map f) hn.1
   · exact absurd (zAf.2 ⟨x,h1,e⟩:f y∈l.map f) hn.1
   · exact Ck hn.2 h1 h2 e
theorem wF (F:Fr l k sc who kp p ms) {z:Jo.Mark} (h:z∈eX l sc who p ms):z∈ms∧gB l sc z=none∧(bp z p who).1=true:=by
 obtain⟨h1,h2⟩:=zCb.1 h;obtain⟨h3,h4⟩:=zCb.1 h1;simp only[zA0,beq_iff_eq] at h2;exact⟨h3,by simpa using h4,h2.2⟩
theorem IP (F:Fr l k sc who kp p ms):((eX l sc who p ms).map (·.id)).Nodup :=
 (l5 F).sublist ((List.filter_sublist.trans List.filter_sublist).map _)
theorem tZ (F:Fr l k sc who kp p ms) {m:Jo.Mark} (hm:m∈ms):bp m p who=(forM m p.aV who,0):=HP (Mk.ch F.marks hm) F.rdr F.pid.symm
theorem Lb (F:Fr l k sc who kp p ms) {m y:Jo.Mark} (hm:m∈ms) (h:gB l sc m=some y):forM y p.aV who=forM m p.aV who:=by
 rw[(jW F h (Mk.ch F.marks hm)).1];rfl
theorem IQ (F:Fr l k sc who kp p ms) {m:Jo.Mark} (hm:m∈ms) {sI:Int→Bool} (hpl:∀i,sI i=true↔∃n∈aL sc.notes p,n.id=i) :
 D8 who p sI (bM l sc who p ms) (eX l sc who p ms) m (gB l sc m)=true:=by
 have hme:=tZ F hm;have same:∀a∈ms,a.id=m.id→a=m:=fun a ha e=>fF (f:=(·.id)) (l5 F) ha hm e
 unfold D8;cases hc:gB l sc m with
 | none =>
   have h1:bw (bM l sc who p ms) m.id=0:=nv fun z hz e=>by
    obtain⟨a,ha,h2,h3⟩:=od F (jX F hz).1;rw[same a ha (h3.symm.trans e),hc] at h2;cases h2
   have h2:bw (eX l sc who p ms) m.id=if forM m p.aV who then 1 else 0:=by
    by_cases hf:forM m p.aV who=true
    · rw[if_pos hf];refine Cj (IP F) ?_;rw[zCb,hme,hf];exact⟨zCb.2 ⟨hm,by simpa using hc⟩,rfl⟩
    · rw[if_neg hf];refine nv fun z hz e=>?_
      obtain⟨k1,_,k3⟩:=wF F hz;rw[same z k1 e,hme] at k3;exact hf k3
   simp only[h1,h2,hme];cases forM m p.aV who<;>rfl
 | some y =>
   obtain⟨hy,hyok⟩:=jW F hc (Mk.ch F.marks hm);have hyid:y.id=m.id:=by rw[hy]
   have hyp:y∈eo l sc ms:=zCh.2 ⟨m,hm,hc⟩;have hyf:=Lb F hm hc;have one:∀z∈bM l sc who p ms,z.id=m.id→z=y:=fun z hz e=>by
    obtain⟨a,ha,h2,h3⟩:=od F (jX F hz).1;rw[same a ha (h3.symm.trans e),hc] at h2;exact(Option.some.inj h2).symm
   have h1:((bM l sc who p ms).any fun z=>z.id==m.id&&z != y)=false:=by
    rw[zE3];intro z hz;simp only[zA0,beq_iff_eq,bne_iff_ne,ne_eq,not_and,Decidable.not_not];exact one z hz
   have h0:bw (eX l sc who p ms) m.id=0:=nv fun z hz e=>by
    obtain⟨k1,k2,_⟩:=wF F hz;rw[same z k1 e,hc] at k2;cases k2
   simp only[h1,h0,hme,Bool.not_false,zBw];by_cases hcn:(forM m p.aV who&&sI y.note)=true
   · rw[if_pos hcn];rw[zA0] at hcn;obtain⟨n,hn,hnid⟩:=(hpl y.note).1 hcn.2;have hv:y.version=sc.version:=by rw[hy]
     have hok:mw sc.version y.note y.kind p.aV who y=true:=FC hv (hyf.trans hcn.1);cases hb:mW sc (eo l sc ms) p who y.note y.kind with
     |none=>have:=Dy (eK F) hb y hyp;rw[hok] at this;cases this
     | some b =>
       have hbs:b∈bM l sc who p ms:=p8.2 ⟨n,hn,y.kind,Bb hyok,by rw[hnid];exact hb⟩;obtain⟨g1,⟨g2,g3⟩,_,_⟩:=ow (eK F) hb;have uniq:∀z∈bM l sc who p ms,z.note=y.note→z.kind=y.kind→z=b:=fun z hz e1 e2 =>
        Ck (vH F) hz hbs (by show(z.note,z.kind)=(b.note,b.kind);rw[e1,e2,g2,g3])
       have hbok:bc b=true:=Mk.ch (oe F) g1;rcases(vh (eK F) hb).2.2 y hyp hok with e|e
       · subst e;have hs:bw (bM l sc who p ms) m.id=1:=by rw[←hyid];exact Cj (xw F) hbs
         have hbe:behind (bM l sc who p ms) y=false:=by
          unfold behind;rw[zE3];intro z hz hq;simp only[zA0,beq_iff_eq,bne_iff_ne,ne_eq] at hq;exact hq.1.1.2 (by rw[uniq z hz hq.1.1.1.1 hq.1.1.1.2])
         rw[hs,hbe];rfl
       · have hne:b.id≠y.id:=fun h=>by
          have:=fF (f:=(·.id)) (eK F) g1 hyp h;rw[this,HO] at e;cases e
         have hs:bw (bM l sc who p ms) m.id=0:=nv fun z hz h=>by
          have e1:=one z hz h;have e2:=uniq z hz (by rw[e1]) (by rw[e1]);exact hne (by rw[←e2,e1])
         have hbe:behind (bM l sc who p ms) y=true:=by
          unfold behind;rw[zDh];refine⟨b,hbs,?_⟩;rw[FB hbok hyok];simp only[zA0,beq_iff_eq,bne_iff_ne,ne_eq];exact⟨⟨⟨⟨g2,g3⟩,hne⟩,trivial⟩,e⟩
         rw[hs,hbe];rfl
   · rw[if_neg hcn];have hs:bw (bM l sc who p ms) m.id=0:=nv fun z hz h=>by
      have e1:=one z hz h;obtain⟨_,k2,n,hn,k3⟩:=jX F hz;rw[e1] at k2 k3;refine hcn ?_;rw[zA0];exact⟨hyf▸k2,(hpl _).2 ⟨n,hn,k3⟩⟩
     rw[hs];rfl
theorem IU (F:Fr l k sc who kp p ms):(ms.map fun m=>bw (bM l sc who p ms) m.id).sum=(bM l sc who p ms).length∧(ms.map fun m=>bw (eX l sc who p ms) m.id).sum=(eX l sc who p ms).length:=by
 have e:∀L:List Jo.Mark,(ms.map fun m=>bw L m.id)=(ms.map (·.id)).map (bw L):=fun L=>by rw[zCo];rfl
 rw[e,e];refine⟨wE (l5 F) fun z hz=>?_,wE (l5 F) fun z hz=>?_⟩
 · obtain⟨a,ha,_,h3⟩:=od F (jX F hz).1;exact zAf.2 ⟨a,ha,h3.symm⟩
 · exact zAf.2 ⟨z,(wF F hz).1,rfl⟩
end
end Go.Proofs.YtmjdoencpjpegaaGreatDoor.Top
