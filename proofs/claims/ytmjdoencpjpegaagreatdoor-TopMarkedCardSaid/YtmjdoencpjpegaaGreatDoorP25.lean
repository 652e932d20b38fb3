/- Parts of the proof. No statement is proved here. -/
import Derived.Test.YtmjdoencpjpegaaGreatDoorP18
import Derived.Test.YtmjdoencpjpegaaGreatDoorP19
import Derived.Test.YtmjdoencpjpegaaGreatDoorP20
import Derived.Test.YtmjdoencpjpegaaGreatDoorP21
set_option linter.unusedVariables false
set_option linter.unusedSimpArgs false
set_option maxHeartbeats 16000000
set_option maxRecDepth 20000
namespace Go.Proofs.YtmjdoencpjpegaaGreatDoor.Mk
open Go.Ab Go.Jo Go.ChangeShapes Go.WideShapes
section
variable {H:Type} {enc:TypeId×Value→H} {W:World} {base b0 fuel:Nat} {held:Bool} {spare:Nat→Bool}
theorem cnT:Tryz.prog.cellsOf 9=1:=by kernel_rfl
theorem cnR:Tryz.prog.cellsOf 25=3:=by kernel_rfl
theorem cnM:Tryz.prog.cellsOf 68=10:=by kernel_rfl
theorem lkT:LOk Tryz.prog 9 ⟨.str,1,16,[.str]⟩:=.of (ab.get rfl)
theorem lkR:LOk Tryz.prog 25 ⟨.struct [(3,0,1),(3,1,1),(3,2,1)],3,24,[.i .i64,.i .i64,.i .i64]⟩:=.of (ab.get rfl)
theorem lkM:LOk Tryz.prog 68 ⟨.struct [(3,0,1),(3,1,1),(3,2,1),(25,3,3),(3,6,1),(3,7,1),(3,8,1),(9,9,1)],10,88,[.i .i64,.i .i64,.i .i64,.i .i64,.i .i64,.i .i64,.i .i64,.i .i64,.i .i64,.str]⟩:=.of (ab.get rfl)
def vR (r:Rdr):List Value:=[vI r.part,vI r.cY,vI r.iO]
def vM (m:Jo.Mark):List Value:=[vI m.id,vI m.kind,vI m.bn,vI m.who.part,vI m.who.cY,vI m.who.iO,vI m.version,vI m.note,vI m.value,.string ⟨m.text.toArray⟩]
theorem rdR {cs:List Value} {x:DataW H×List MemPlace} (h:DataW.trod enc Tryz.prog W base spare held fuel 25 cs=some x):∃r:Rdr,cs=vR r:=by
 obtain⟨hlen,n,hf⟩:=cR lkR h;rw[cnR] at hlen
 match cs,hlen with
 | [u0, u1, u2], _ =>
   obtain⟨y0,h0⟩:=hf 0 3 0 1 rfl;obtain⟨y1,h1⟩:=hf 1 3 1 1 rfl;obtain⟨y2,h2⟩:=hf 2 3 2 1 rfl;rw[cn3] at h0 h1 h2;obtain⟨n0,e0,_⟩:=bx lk3 h0;obtain⟨n1,e1,_⟩:=bx lk3 h1;obtain⟨n2,e2,_⟩:=bx lk3 h2;simp at e0 e1 e2;subst e0 e1 e2;exact⟨⟨n0,n1,n2⟩,rfl⟩
theorem bytes_eta (s:ByteArray):s=⟨s.data.toList.toArray⟩:=by cases s;simp
theorem rdM {cs:List Value} {x:DataW H×List MemPlace} (h:DataW.trod enc Tryz.prog W base spare held fuel 68 cs=some x):∃m:Jo.Mark,cs=vM m∧m.text.length≤9223372036854775807:=by
 obtain⟨hlen,n,hf⟩:=cR lkM h;rw[cnM] at hlen
 match cs,hlen with
 | [u0, u1, u2, u3, u4, u5, u6, u7, u8, u9], _ =>
   obtain⟨y0,h0⟩:=hf 0 3 0 1 rfl;obtain⟨y1,h1⟩:=hf 1 3 1 1 rfl;obtain⟨y2,h2⟩:=hf 2 3 2 1 rfl;obtain⟨y3,h3⟩:=hf 3 25 3 3 rfl;obtain⟨y4,h4⟩:=hf 4 3 6 1 rfl;obtain⟨y5,h5⟩:=hf 5 3 7 1 rfl;obtain⟨y6,h6⟩:=hf 6 3 8 1 rfl;obtain⟨y7,h7⟩:=hf 7 9 9 1 rfl;rw[cn3] at h0 h1 h2 h4 h5 h6;rw[cnR] at h3;rw[cnT] at h7;obtain⟨n0,e0,_⟩:=bx lk3 h0;obtain⟨n1,e1,_⟩:=bx lk3 h1;obtain⟨n2,e2,_⟩:=bx lk3 h2;obtain⟨r,e3⟩:=rdR h3;obtain⟨n4,e4,_⟩:=bx lk3 h4;obtain⟨n5,e5,_⟩:=bx lk3 h5;obtain⟨n6,e6,_⟩:=bx lk3 h6;obtain⟨s,e7,hs⟩:=LA lkT h7;simp[vR] at e0 e1 e2 e3 e4 e5 e6 e7;obtain⟨e31,e32,e33⟩:=e3;subst e0 e1 e2 e31 e32 e33 e4 e5 e6 e7;refine⟨⟨n0,n1,n2,r,n4,n5,n6,s.data.toList⟩,by unfold vM;rw[←bytes_eta],?_⟩;have h9:s.data.toList.length=s.size:=by rw[zBp];rfl
   show s.data.toList.length≤_;rw[h9];exact hs
end
end Go.Proofs.YtmjdoencpjpegaaGreatDoor.Mk
namespace Go.Ab
open Go.ChangeShapes Go.WideShapes
section
variable {H:Type} {enc:TypeId×Value→H} {P:Program} {w:World} {base:Nat} {held:Bool} {spare:Nat→Bool}
theorem Bd {t e:TypeId} {sz b:Nat} {v:Value} {d:DataW H} {p:List MemPlace} {es:List (List AV)} {ts:List TypeId} {ds:List (DataW H)} (hu:P.underlying t=some (.slice e)) (hb:P.bytesOf e=b) (h:DataW.Trod enc P w base spare held t v d p)
 (hr:af (bR w) [] (.sl sz es .no) v) (hs:(DataW.weightsEach P ts ds).all (·≤reachBytes)=true) {j:Nat} (ht:ts[j]? = some t) (hd:ds[j]? = some d):es.length * b≤reachBytes:=by
 obtain⟨fuel,hf⟩:=h;rcases Deep.open_slice hu hf with ⟨h1,h2⟩|⟨a,len,cap,m,n,D,Pl,h1,_,_,_,_,h2,_⟩
 · cases hr with
   |sl _ _ _ b off cap f=>simp[Value.cells] at h1
   |slz=>simp
   |slzz=>simp
 · have hd':d=.slice ((List.range len).map D) ((List.range (m - len)).map fun j=>D (len+j)):=congrArg Prod.fst h2;subst hd';have:=sized_slice hs ht hd hu;rw[hb] at this;have hl:es.length=len:=by
    cases hr with
    |sl _ _ _ b off cap f=>simp[Value.cells] at h1;omega
    |slz=>simp[Value.cells] at h1
    |slzz=>simp[Value.cells] at h1;simp;omega
   rw[hl];refine zBu (zB6 b ?_) this;simp
end
end Go.Ab
namespace Go.Proofs.YtmjdoencpjpegaaGreatDoor.Mk
open Go.Ab Go.Jo Go.ChangeShapes Go.WideShapes
section
variable {H:Type} {enc:TypeId×Value→H} {W:World} {base b0 fuel:Nat} {held:Bool} {spare:Nat→Bool}
end
end Go.Proofs.YtmjdoencpjpegaaGreatDoor.Mk
namespace Go.Ab
theorem FG {κ α:Type} [DecidableEq κ] {al:List (κ×α)} {key:κ}:kJ al key=none↔key∉al.map (·.1):=by
 unfold kJ;rw[zDn];constructor
 · intro h hk;have:=h key hk;simp at this
 · intro h x hx;simp only[dEf];exact fun e=>h (e▸hx)
theorem xh {κ α:Type} [DecidableEq κ] {al:List (κ×α)} {key:κ} {i:Nat} (h:kJ al key=some i):i<al.length∧(al.map (·.1))[i]? = some key:=by
 unfold kJ at h;obtain⟨h1,h2,_⟩:=zCi.1 h;refine⟨by simpa using h1,?_⟩;rw[zA1 h1];simpa using h2
end Go.Ab
namespace Go.Proofs.YtmjdoencpjpegaaGreatDoor.Top
open Go.Ab Go.Jo Go.Sy Mk
attribute [local irreducible] AWP AOps EStep AQ PStep PRun PCall TCall VCall
def mG (s:Nat×List Nat×List (Int×Jo.Mark)) (e:Ev):Nat×List Nat×List (Int×Jo.Mark) :=
 if e.kind=1 then (pR s.1 s.2.2 e.mark.id,pS s.1 s.2.1 s.2.2 e.mark.id,ins s.2.2 e.mark.id e.mark) else if e.kind=2 then (s.1,we s.2.1 s.2.2 e.n,wb s.2.2 e.n) else s
def jm (l:List Ev):Nat×List Nat×List (Int×Jo.Mark):=l.foldl mG (0,[],[])
structure tO (s:Nat×List Nat×List (Int×Jo.Mark)) (n:Nat):Prop where
 len:s.2.1.length=s.2.2.length
 nd:s.2.1.Nodup
 lt:∀b∈s.2.1,b<s.1
 keys:(s.2.2.map (·.1)).Nodup
 few:s.2.2.length≤n
 own:∀p∈s.2.2,p.2.id=p.1∧bc p.2=true
theorem HX {s:Nat×List Nat×List (Int×Jo.Mark)} {n:Nat} (h:tO s n) {e:Ev} (he:gu e=true):tO (mG s e) (n+1):=by
 obtain⟨c,bs,al⟩:=s;obtain⟨h1,h2,h3,h4,h5,h6⟩:=h;dsimp only at h1 h2 h3 h4 h5 h6;unfold mG;by_cases k1:e.kind=1
 · rw[if_pos k1];have hmo:bc e.mark=true:=by
    unfold gu at he;rw[if_pos k1] at he;simp only[zA0] at he;exact he.2.1
   have hp:=tC (key:=e.mark.id) (v:=e.mark) al;cases hf:kJ al e.mark.id with
   | none =>
     simp only[hf] at hp;have e1:pR c al e.mark.id=c+1:=by unfold pR;rw[hf];rfl
     have e2:pS c bs al e.mark.id=bs++[c]:=by unfold pS;rw[hf];rfl
     rw[e1,e2,hp];refine⟨by simp[h1],?_,fun b hb=>?_,?_,by simp;omega,fun p hp2=>?_⟩
     · show(bs++[c]).Nodup;rw[zBz];exact⟨h2,by simp,fun a ha b hb=>by rw[zA9.1 hb];have:=h3 a ha;omega⟩
     · show b<c+1;rcases zAy.1 hb with hb|hb
       · have:=h3 b hb;omega
       · rw[zA9.1 hb];omega
     · show((al++[(e.mark.id,e.mark)]).map (·.1)).Nodup;rw[zAz,zBz];exact⟨h4,by simp,fun a ha b hb=>by
        simp at hb;subst hb;exact fun e=>FG.1 hf (e▸ha)⟩
     · rcases zAy.1 hp2 with hp2|hp2
       · exact h6 p hp2
       · rw[zA9.1 hp2];exact⟨rfl,hmo⟩
   | some i =>
     simp only[hf] at hp;obtain⟨g1,g2,g3⟩:=hp;have e1:pR c al e.mark.id=c:=by unfold pR;rw[hf];rfl
     have e2:pS c bs al e.mark.id=bs:=by unfold pS;rw[hf];rfl
     rw[e1,e2,g1];have ek:(al.set i (e.mark.id,e.mark)).map (·.1)=al.map (·.1):=by
      rw[List.map_set];refine zC5 fun j=>?_
      by_cases hij:i=j
      · subst hij;rw[zAh (by simpa using g2),(xh hf).2]
      · rw[zAs hij]
     refine⟨by simpa using h1,h2,h3,?_,by simp;omega,fun p hp2=>?_⟩
     · show((al.set i (e.mark.id,e.mark)).map (·.1)).Nodup;rw[ek];exact h4
     · rcases zCe hp2 with hp2|rfl
       · exact h6 p hp2
       · exact⟨rfl,hmo⟩
 · rw[if_neg k1];by_cases k2:e.kind=2
   · rw[if_pos k2];unfold we wb;cases hf:kJ al e.n with
     |none=>exact⟨h1,h2,h3,h4,by dsimp only;omega,h6⟩
     | some i =>
       have hi:=(xh hf).1;refine⟨?_,h2.sublist (List.eraseIdx_sublist ..),fun b hb=>h3 b (List.mem_of_mem_eraseIdx hb),h4.sublist ((List.eraseIdx_sublist ..).map _),?_,fun p hp2=>h6 p (List.mem_of_mem_eraseIdx hp2)⟩
       · dsimp only;rw[zDa,zDa,h1]
       · dsimp only;have:=(List.eraseIdx_sublist al i).length_le;omega
   · rw[if_neg k2];exact⟨h1,h2,h3,h4,by dsimp only;omega,h6⟩
theorem B7:∀(l:List Ev) (s:Nat×List Nat×List (Int×Jo.Mark)) (n:Nat),tO s n→(∀e∈l,gu e=true)→tO (l.foldl mG s) (n+l.length)
 |[],_,_,h,_=>h
 | e :: l, s, n, h, he => by
   rw[List.foldl_cons,zAc,show n+(l.length+1)=(n+1)+l.length by omega];exact B7 l _ _ (HX h (he e (zAr ..))) fun x hx=>he x (zAk _ hx)
theorem sC {l:List Ev} (he:∀e∈l,gu e=true):tO (jm l) l.length:=by
 have:=B7 l (0,[],[]) 0 ⟨rfl,zDb,(fun b hb=>by cases hb),zDb,nLr _,(fun p hp=>by cases hp)⟩ he;rw[zC3] at this;exact this
theorem tO.ok {s:Nat×List Nat×List (Int×Jo.Mark)} {n:Nat} (h:tO s n) (hn:n≤1000000):uZ s.1 s.2.1 s.2.2:=⟨h.len,h.nd,h.lt,h.keys,by have:=h.few;omega⟩
theorem HY {l:List Ev} {k:Nat} {e:Ev} (hk:k<l.length) (h:l.getD k default=e):jm (l.take (k+1))=mG (jm (l.take k)) e:=by
 have:l.take (k+1)=l.take k++[e]:=by rw[←h,gV hk];exact zBe hk
 rw[this];unfold jm;rw[zC6];rfl
def qa (l:List Ev):List Int:=dG ((jm l).2.2.map (·.1))
def iY (al:List (Int×Jo.Mark)) (k:Int):Jo.Mark:=(lk al k).getD noMark
def bE (l:List Ev):List Jo.Mark:=(qa l).map (iY (jm l).2.2)
def jF (l:List Ev):List Jo.Mark×Int:=if dL l=true then (bE l,0) else ([],1)
theorem rp {al:List (Int×Jo.Mark)} {k:Int} (h:k∈al.map (·.1)):∃m,lk al k=some m∧(k,m)∈al:=by
 induction al with
 |nil=>cases h
 | cons p al ih =>
   obtain⟨a,m⟩:=p;by_cases e:a=k
   · subst e;exact⟨m,by simp[lk],zAr ..⟩
   · rw[zBd,zAw] at h;obtain⟨m',h1,h2⟩:=ih (h.resolve_left fun h=>e h.symm);exact⟨m',by simp only[lk];rw[if_neg e];exact h1,zAk _ h2⟩
theorem rI {l:List Ev} (h:dL l=true):bP (bE l)=true:=by
 obtain⟨h1,_,h3⟩:=fl.1 h;have hp:=sC h1;have wx:∀k∈qa l,∃m,iY (jm l).2.2 k=m∧m.id=k∧bc m=true:=fun k hk=>by
  have hk2:k∈(jm l).2.2.map (·.1):=(mn _).mem_iff.1 hk;obtain⟨m,g1,g2⟩:=rp hk2;obtain⟨g3,g4⟩:=hp.own _ g2;exact⟨m,by unfold iY;rw[g1];rfl,g3,g4⟩
 have hid:(bE l).map (·.id)=qa l:=by
  unfold bE;rw[zCo]
  conv=>rhs;rw[←List.map_id (qa l)]
  exact zCs fun k hk=>by
   obtain⟨m,g1,g2,_⟩:=wx k hk;simp only[Function.comp,g1,g2,id]
 unfold bP;simp only[zA0,dEt,zA6];refine⟨⟨fun m hm=>?_,?_⟩,?_⟩
 · obtain⟨k,hk,rfl⟩:=zAf.1 hm;obtain⟨m,g1,_,g3⟩:=wx k hk;rw[g1];exact g3
 · rw[hid];exact(mn _).nodup_iff.2 hp.keys
 · unfold bE qa;rw[lLm,nL,lLm];have:=hp.few;omega
theorem qc {l:List Ev} (h:dL l=true):(bE l).length≤l.length:=by
 have hp:=sC (fl.1 h).1;unfold bE qa;rw[lLm,nL,lLm];exact hp.few
theorem vk (l:List Ev) (ht:Txt l) (hl:l.length≤1000000000):PCall Tryz.prog 9 [.sl 14 (l.map fN) .no] (.tup [.sl 10 ((jF l).1.map aJ) .no,.int (jF l).2]):=by
 have v:=rA l ht hl;cases hb:dL l with
 | false =>
   have e1:jF l=([],1):=by unfold jF;rw[hb];rfl
   rw[hb] at v;rw[e1];refine PCall.body Tryz.func9 rfl rfl Tryz.ntmps9 rfl rfl ?_
   repeat' (first|refine qP ?_ (h:=fun hg=>by first|exact ae|exact pc v|fail)|apply sqW|refine rgK fun U V=>?_|(refine aN V ?_;clear V U)|refine cX ?_ ?_<;>intro hc<;>try simp only[dE] at hc|refine skW ?_|refine rtW ?_)
   · exact⟨.inr rfl,Ent.tup rfl fun i u v hu hv=>by
      match i,hu,hv with
      |0,hu,hv=>cases hu;cases hv;exact Ent.nil
      |1,hu,hv=>cases hu;cases hv;exact Ent.cB _
      |i+2,hu,hv=>cases hu⟩
   all_goals (exfalso;simp at hc;done)
 | true =>
   have e1:jF l=(bE l,0):=by unfold jF;rw[hb];rfl
   rw[hb] at v;rw[e1];obtain⟨hok,_,hlen⟩:=fl.1 hb;have hin:=fun k=>sC (l:=l.take k) fun e he=>hok e (zC4 he)
   refine PCall.body Tryz.func9 rfl rfl Tryz.ntmps9 rfl rfl ?_
   repeat' (first|refine qP ?_ (h:=fun hg=>by first|exact ae|exact pc v|fail)|apply sqW|refine rgK fun U V=>?_|(refine aN V ?_;clear V U))
   refine cdW rfl tI (fun hc=>absurd hc sMp) (fun hc=>?_)
   repeat' (first|refine qT ?_|apply sqW|refine rgK fun U V=>?_|(refine aN V ?_;clear V U)|refine aoE (EStep.cz rfl rfl rfl rfl ?_)|refine blK ?_|refine skW ?_)
   refine AWP.LL 0 rfl ?_
   refine lpD (ι:=Nat) (fun k=>[(0,.sl 14 (l.map fN) .no),(4,.map 0),(14,.sl 14 (l.map fN) .no),(15,.int l.length),(16,.int k)]) (fun k=>[mpO (jm (l.take k)).1 (jm (l.take k)).2.1 (jm (l.take k)).2.2])
    (fun k=>k≤l.length) (fun k=>l.length - k) 1 (fun _=>rfl) 0 (nZl _) ⟨rfl,rfl,rfl,rfl,rfl,tI⟩ rfl (fun _ _=>rfl) (fun k _=>by simp only[zAq,zAu,zC2];exact zI _ _ _ _) ?_
   intro k hk;by_cases hlt:k<l.length
   · obtain⟨e,he⟩:∃e,l.getD k default=e:=⟨_,rfl⟩
     have hst:=HY hlt he;unfold mG at hst;generalize jm (l.take k)=s at *;obtain⟨c,bs,al⟩:=s;dsimp only at hst ⊢
     repeat' (first|refine qP ?_ (h:=fun hg=>by first|exact iX fN l ((k:Nat):Int) he (hb:=oM)|exact ae|fail)|apply sqW|refine rgK fun U V=>?_|(refine aN V ?_;clear V U)|refine aS ?_|refine aA ?_|refine aoE (EStep.Ko (ek:=ekZ) (ev:=evK) (al:=al) (key:=e.mark.id) (v:=e.mark) (ay (lkG rfl)) (lkG rfl) rfl rfl rfl (Rd.w rfl tI) rfl (Rd.w rfl tI) rfl (Rd.w rfl tI) ?_)|refine aoE (EStep.Kp (ek:=ekZ) (ev:=evK) (al:=al) (key:=e.n) (ay (lkG rfl)) (lkG rfl) rfl rfl rfl (Rd.w rfl tI) rfl (Rd.w rfl tI) rfl ?_)|refine cX ?_ ?_<;>intro hc<;>try simp only[dE] at hc|refine blK ?_|refine exW ?_|refine skW ?_)
     all_goals (first|exact dd|skip)
     · exact⟨k+1,oM,oM,⟨rfl,rfl,rfl,rfl,rfl,tI⟩,by rw[hst,if_pos (eq_of_beq hc)];rfl⟩
     · rename_i hc1;exact⟨k+1,oM,oM,⟨rfl,rfl,rfl,rfl,rfl,tI⟩,by rw[hst,if_neg (fun h=>by rw[h] at hc1;cases hc1),if_pos (eq_of_beq hc)];rfl⟩
     · rename_i hc1;exact⟨k+1,oM,oM,⟨rfl,rfl,rfl,rfl,rfl,tI⟩,by rw[hst,if_neg (fun h=>by rw[h] at hc1;cases hc1),if_neg (fun h=>by rw[h] at hc;cases hc)];rfl⟩
   · obtain rfl:k=l.length:=oM;rw[zB2];have hp:=(sC hok).ok oM;have hml:=qc hb;have hme:bE l=(dG ((jm l).2.2.map (·.1))).map (iY (jm l).2.2):=rfl;rw[hme] at hml ⊢;clear hme hin;generalize jm l=s at *;obtain⟨c,bs,al⟩:=s;dsimp only at hp hml ⊢;have hkt:=TCall.val (first:=[]) (aM:=[]) (avs:=[.map 0]) (L7 c bs al);have hst:=TCall.val (first:=[]) (aM:=[]) (avs:=[.fn (.func 54) [] [.ptr 1 0]]) (HG c bs al hp);generalize dG (al.map (·.1))=ks at *;rw[lLm] at hml
     repeat' (first|refine qT ?_|apply sqW|refine rgK fun U V=>?_|(refine aN V ?_;clear V U)|refine aS ?_|refine aA ?_|refine aoE (scT (hkt) rfl rfl rfl rfl rfl nd rfl rfl nds ?_)|refine cX ?_ ?_<;>intro hc<;>try simp only[dE] at hc|refine blK ?_|refine exW ?_|refine skW ?_)
     all_goals (first|exact dd|skip)
     rintro _ _ ⟨rfl,rfl⟩
     repeat' (first|refine aoE (scT (hst) rfl rfl rfl rfl rfl nd rfl rfl nds ?_))
     rintro _ _ ⟨rfl,rfl⟩
     repeat' (first|refine qT ?_|(refine aN V ?_;clear V U)|refine blK ?_)
     refine AWP.fX (d:=7) (sz:=10) rfl ?_
     refine lpD (ι:=Nat) (fun j=>[(4,.map 0),(7,.sl 10 (((ks.take j).map (iY al)).map aJ) (.own 2)),(38,.sl 1 (ks.map eZ) .no),(39,.int ks.length),(40,.int j)]) (fun j=>[mpO c bs al,.var [.map 0],.own 10 (((ks.take j).map (iY al)).map aJ).length])
      (fun j=>j≤ks.length) (fun j=>ks.length - j) 3 (fun _=>rfl) 0 (nZl _) ⟨rfl,rfl,rfl,rfl,rfl,tI⟩ rfl (fun _ _=>rfl) (fun j _=>by simp only[zAq,zAu,zC2,zI 3];rfl) ?_
     intro j hj;by_cases hjl:j<ks.length
     · obtain⟨q,hq⟩:∃q,ks.getD j default=q:=⟨_,rfl⟩
       have e3:((ks.take j).map (iY al)).map aJ++[aJ (iY al q)]=((ks.take (j+1)).map (iY al)).map aJ:=by
        have:ks.take (j+1)=ks.take j++[q]:=by rw[←hq,gV hjl];exact zBe hjl
        rw[this];simp
       have em:(((ks.take j).map (iY al)).map aJ).length=j:=by simp;omega
       generalize ((ks.take j).map (iY al)).map aJ=A at *
       repeat' (first|refine qP ?_ (h:=fun hg=>by first|exact PRun.Kq (ok:=false) (ek:=ekZ) (ev:=evK) (al:=al) (key:=q) (zv:=noMark) (ay (lkG rfl)) (lkG rfl) (lkG rfl) rfl rfl (Rd.w rfl nd) rfl (Rd.w rfl nd) rfl|exact iX eZ ks ((j:Nat):Int) hq (hb:=oM)|exact ae|exact pbS ab rfl rfl nds|fail)|apply sqW|refine rgK fun U V=>?_|(refine aN V ?_;clear V U)|refine aoE (apO ab rfl rfl rfl dCd (Rd.w rfl tI) rfl (Rd.w rfl tI) (.sl rfl (by first|(intro x hx;rcases zA9.1 hx with rfl;rfl)|exact one_by8 _|exact one_ints _)) (lkG rfl) (lkG rfl) rfl rfl (by simp only[lLm,lLa,zAc,zAi];omega) (by simp only[lLm,lLa,zAc,zAi];omega) ?_)|refine cX ?_ ?_<;>intro hc<;>try simp only[dE] at hc|refine blK ?_|refine exW ?_|refine skW ?_|refine rtW ?_)
       all_goals (first|exact dd|skip)
       refine⟨j+1,oM,oM,⟨rfl,?_,rfl,rfl,rfl,tI⟩,?_⟩
       · rw[←e3];rfl
       · rw[←e3];rfl
     · obtain rfl:j=ks.length:=oM;rw[zB2]
       repeat' (first|refine qT ?_|apply sqW|refine rgK fun U V=>?_|(refine aN V ?_;clear V U)|refine cX ?_ ?_<;>intro hc<;>try simp only[dE] at hc|refine blK ?_|refine exW ?_|refine skW ?_|refine rtW ?_)
       all_goals (first|exact dd|skip)
       exact⟨.inr rfl,Ent.of rfl⟩
end Go.Proofs.YtmjdoencpjpegaaGreatDoor.Top
namespace Go.Ab
section
variable {P:Program} {n:Nat} {ops:Array Oper} {md:Region.Mode} {S:Nat→aa} {eff:Oper→Bool} {lo hi aK:Nat→Nat}
def tP (R:Nat→Nat→Bool) (listed:Array Bool):Prop:=∀m,listed.getD m false=true→∀i,R m i=true→listed.getD i false=true
def vl (md:Region.Mode) (ops:Array Oper) (R:Nat→Nat→Bool):Prop:=∀(k:Nat) (o:Oper),ops[k]? = some o→∀i,R k i=true→∃e∈o.after,Region.binds md e=true∧(e.on=i∨R e.on i=true)
theorem getD_set_true {listed:Array Bool} {k m:Nat} (h:listed.getD m false=true):(listed.setIfInBounds k true).getD m false=true:=by
 by_cases e:k=m
 · subst e;have hlt:k<listed.size:=by
    rcases nLg k listed.size with h'|h'
    · exact h'
    · simp[zAp h'] at h
   simp[hlt]
 · rw[getD_set_ne false e];exact h
theorem tP.put {R:Nat→Nat→Bool} (hR:vl md ops R) {listed:Array Bool} (h:tP R listed) {k:Nat} (hk:k∈Region.ready md ops listed):tP R (listed.setIfInBounds k true):=by
 intro m hm i hi;by_cases e:k=m
 · subst e;obtain⟨_,o,ho,aT⟩:=mem_ready.1 hk;obtain⟨x,hx,hb,h1⟩:=hR k o ho i hi;have h2:=aT x hx hb;rcases h1 with rfl|h1
   · exact getD_set_true h2
   · exact getD_set_true (h _ h2 i h1)
 · rw[getD_set_ne false e] at hm;exact getD_set_true (h m hm i hi)
theorem tP.no {R:Nat→Nat→Bool} (hR:vl md ops R) {listed:Array Bool} (h:tP R listed) {k i:Nat} (hk:k∈Region.ready md ops listed) (hi:i∈Region.ready md ops listed):R k i=false:=by
 cases hb:R k i with
 |false=>rfl
 | true =>
   exfalso;obtain⟨_,o,ho,aT⟩:=mem_ready.1 hk;obtain⟨x,hx,hbx,h1⟩:=hR k o ho i hb;have h2:=aT x hx hbx;have h3:listed.getD i false=true:=by
    rcases h1 with rfl|h1
    · exact h2
    · exact h _ h2 i h1
   have h4:=(mem_ready.1 hi).1;rcases nLg i listed.size with h'|h'
   · simp[h'] at h3 h4;rw[h3] at h4;cases h4
   · simp[zAp h'] at h3
theorem Be {K:Env→Nat→Prop} {R:Nat→Nat→Bool} (hR:vl md ops R) {i:Nat} {oi:Oper} {v:AV} (hio:ops[i]? = some oi) :
 ∀(fuel:Nat) (listed:Array Bool) (env:Env) (j j1:Nat),tP R listed →
  (∀k ok,ops[k]? = some ok→k≠i→listed.getD k true=false→(∀e∈ok.after,Region.binds md e=true→e.on≠i)→oi.apart ops ok=true∧(R k i=false→kB eff lo hi aK i k oi ok)) →
  i∈Region.ready md ops listed→YS P n ops S eff lo hi aK i oi env j v j1 →
  qQ P n md ops S eff lo hi aK K fuel (listed.setIfInBounds i true) (env.bj oi.dst v) j1→qQ P n md ops S eff lo hi aK K (fuel+1) listed env j:=by
 have take:∀{env:Env} {j j1:Nat} {K:Env→Nat→Prop},YS P n ops S eff lo hi aK i oi env j v j1→K (env.bj oi.dst v) j1→yq P n ops S eff lo hi aK i K env j:=fun hy h=>by
  unfold yq;simp only[hio];exact⟨v,_,hy,h⟩
 intro fuel;induction fuel with
 | zero =>
   intro listed env j j1 _ _ hr hy H;refine⟨fun h=>(by rw[h] at hr;cases hr),fun k hk=>?_⟩;by_cases hki:k=i
   · subst hki;exact take hy H
   · have:=ready_mono hk hki;rw[H.1] at this;cases this
 | succ fuel ih =>
   intro listed env j j1 hshut hfree hr hy H;refine⟨fun h=>(by rw[h] at hr;cases hr),fun k hk=>?_⟩;by_cases hki:k=i
   · subst hki;exact take hy H
   · have h1:=H.2 k (ready_mono hk hki);have hno:=hshut.no hR hk hr;obtain⟨qU,ok,hok,aT⟩:=mem_ready.1 hk;have j9:∀e∈ok.after,Region.binds md e=true→e.on≠i:=fun e he hb heq=>by
      have h1:=aT e he hb;have h0:=(mem_ready.1 hr).1;rw[heq] at h1;rcases nLg i listed.size with h'|h'
      · simp[h'] at h0 h1;rw[h0] at h1;cases h1
      · simp[zAp h'] at h1
     obtain⟨f1,f2⟩:=hfree k ok hok hki qU j9;have h2:=EA hok f1 (f2 hno) hy h1
     have ka:∀l ol,ops[l]? = some ol→l≠i→(listed.setIfInBounds k true).getD l true=false →
      (∀e∈ol.after,Region.binds md e=true→e.on≠i)→oi.apart ops ol=true∧(R l i=false→kB eff lo hi aK i l oi ol):=fun l ol hl hli hun hno=>by
      refine hfree l ol hl hli ?_ hno;by_cases hkl:k=l
      · subst hkl;exact qU
      · rw[getD_set_ne true hkl] at hun;exact hun
     refine BD (fun e' j' h3=>?_) h2;obtain⟨j2,h4,h5⟩:=h3;refine ih (listed.setIfInBounds k true) e' j' j2 (hshut.put hR hk) ka (ready_mono hr (Ne.symm hki)) h4 ?_;rw[zD5 _ _ hki];exact h5
def FH (md:Region.Mode) (ops:Array Oper) (eff:Oper→Bool) (R:Nat→Nat→Bool) (lo hi aK:Nat→Nat) (listed:Array Bool) (i:Nat):Bool:=(List.range ops.size).all fun k=>i==k||listed.getD k true||R k i||match ops[i]?,ops[k]? with
 |some o,some o'=>iz md o' i||!(o.apart ops o')||(!(eff o&&eff o')&&(eff o||!eff o'||decide (aK k≤hi i))&&(!eff o||eff o'||decide (lo k<aK i)))
 |_,_=>true
def x7 (md:Region.Mode) (ops:Array Oper) (eff:Oper→Bool) (R:Nat→Nat→Bool) (lo hi aK:Nat→Nat):Nat→Nat→Array Bool→Bool
 |0,_,_=>true
 |f+1,i,listed=>FH md ops eff R lo hi aK listed i&&x7 md ops eff R lo hi aK f (i+1) (listed.setIfInBounds i true)
theorem Bf {R:Nat→Nat→Bool} {listed:Array Bool} {i k:Nat} (h:FH md ops eff R lo hi aK listed i=true) {o o':Oper} (hne:k≠i) (h1:ops[i]? = some o) (h2:ops[k]? = some o') (hun:listed.getD k true=false) (hno:∀e∈o'.after,Region.binds md e=true→e.on≠i) (hap:o.apart ops o'=true) (hr:R k i=false):kB eff lo hi aK i k o o':=by
 have m2:=(zBh.1 h2).1;have h3:=zA6.1 h k (zBk.2 m2);have e:(i==k)=false:=by simp;exact fun e=>hne e.symm
 have e2:iz md o' i=false:=by
  cases hb:iz md o' i with
  |false=>rfl
  | true =>
    unfold iz at hb;obtain⟨x,hx,hy⟩:=zDv.1 hb;simp only[zA0,beq_iff_eq] at hy;exact absurd hy.2 (hno x hx hy.1)
 simp only[e,zDq,h1,h2,e2,hap,zE8,hun,hr] at h3;unfold kB;cases ho:eff o<;>cases ho':eff o'<;>simp_all
theorem xi {R:Nat→Nat→Bool} (hR:vl md ops R) {K:Env→Nat→Prop}:∀(l:List Oper) (k:Nat) (listed:Array Bool) (env:Env) (j:Nat),tP R listed→(∀i,l[i]? = ops[k+i]?) →
 x7 md ops eff R lo hi aK l.length k listed=true→Region.lexFrom md ops l.length k listed=true→YQ P n ops S eff lo hi aK K l k env j→qQ P n md ops S eff lo hi aK K l.length listed env j
 |[],_,_,_,_,_,_,_,hB,h=>⟨by simpa[Region.lexFrom] using hB,h⟩
 | o :: l, k, listed, env, j, hS, hl, hE, hB, h => by
   simp only[zAc,x7,zA0] at hE;have h0:ops[k]? = some o:=by simpa using(hl 0).symm
   simp only[zAc,Region.lexFrom,zA0] at hB;obtain⟨⟨hr,hf⟩,hB'⟩:=hB;obtain⟨v,j',hy,V⟩:=h;have hr':k∈Region.ready md ops listed:=by simpa using hr
   exact Be hR h0 l.length listed env j j' hS (fun k2 ok h1 h2 h3 h4=>let ap:=Region.free_spec h0 hf k2 ok h1 h2 h3 h4;⟨ap,Bf hE.1 h2 h0 h1 h3 h4 ap⟩) hr' hy
    (xi hR l (k+1) _ _ j' (hS.put hR hr') (fun i=>by have:=hl (i+1);simpa[zCg,zDc 1 i] using this) hE.2 hB' V)
def reach (ops:Array Oper) (k i:Nat):Bool:=((Region.before ops).getD k 0).testBit i
def rJ (md:Region.Mode) (ops:Array Oper) (R:Nat→Nat→Bool) (i:Nat):Nat→Bool
 |0=>true
 |k+1=>(!R k i||(match ops[k]? with|some o=>o.after.any fun e=>Region.binds md e&&(e.on==i||R e.on i)|none=>true))&&rJ md ops R i k
theorem sY {R:Nat→Nat→Bool} {i:Nat}:∀{m:Nat},rJ md ops R i m=true→∀k o,k<m→ops[k]? = some o→R k i=true→∃e∈o.after,Region.binds md e=true∧(e.on=i∨R e.on i=true)
 |0,_,k,_,hk,_,_=>by omega
 | m + 1, h, k, o, hk, ho, hr => by
   unfold rJ at h;rw[zA0] at h;rcases nLg k m with h1|h1
   · exact sY h.2 k o h1 ho hr
   · obtain rfl:k=m:=oM;have h2:=h.1;simp only[hr,zE8,zDq,ho] at h2;obtain⟨e,he,h3⟩:=zDv.1 h2;simp only[zA0,zBn,beq_iff_eq] at h3;exact⟨e,he,h3⟩
def mY (l:List Oper) (k i:Nat):Bool:=decide (i<l.length)&&reach l.toArray k i
theorem HZ {l:List Oper} (h:((List.range l.length).all fun i=>rJ md l.toArray (mY l) i l.length)=true):vl md l.toArray (mY l):=by
 intro k o ho i hr;have hk:=(zBh.1 ho).1;have hi:i<l.length:=by
  unfold mY at hr;simp only[zA0,dEt] at hr;exact hr.1
 exact sY (zA6.1 h i (zBk.2 hi)) k o (by simpa using hk) ho hr
def Jy (ops:List Oper) (eff:Oper→Bool) (i:Nat):Nat:=(ops.zipIdx.filter fun p=>eff p.1&&!mY ops p.2 i).foldl (fun m p=>max m (fY ops eff p.2)) 0
def Jz (ops:List Oper) (eff:Oper→Bool) (i:Nat):Nat:=(ops.zipIdx.filter fun p=>eff p.1&&!mY ops i p.2).foldl (fun m p=>min m (fY ops eff p.2 - 1)) ((ops.filter eff).length)
theorem AWP.zO {P:Program} {n:Nat} (eff:Oper→Bool) {id:Nat} {l:List Oper} {K:Exit→Env→aa→Prop} {env:Env} {σ:aa} (S:Nat→aa) (h0:S 0=σ)
 (hm:P.follows .mixedOrders=true) (hB:Region.lexB .any l.toArray=true) (hd:eU n l.toArray=true)
 (hE:(((List.range l.length).all fun i=>rJ .any l.toArray (mY l) i l.length)&&x7 .any l.toArray eff (mY l) (Jz l eff) (Jy l eff) (fY l eff) l.length 0 (Array.replicate l.length false))=true)
 (h:∀U:Env→Nat→Prop,(∀e j,K .normal e (S j)→U e j)→YQ P n l.toArray S eff (Jz l eff) (Jy l eff) (fY l eff) U l 0 env 0):AWP P n (.region id l.toArray true) K env σ:=by
 subst h0;intro G a w hr;simp only[Region.lexB,zA0] at hB;rw[zA0] at hE;refine wpIn_region_any hm ?_;have:=xi (md:=.any) (HZ hE.1) l 0 (Array.replicate l.toArray.size false) env 0 (fun m hm=>by
  rcases nLg m l.length with h'|h'
  · simp[h'] at hm
  · simp[zAp,h'] at hm) sMp (by simpa using hE.2) (by simpa using hB.2) (h (fun e j=>K .normal e (S j)) fun _ _ h=>h)
 refine dV _ hd _ _ env 0 (by simpa using this) G a _ ⟨hr.size,hr.defers,hr.bf,hr.st.drew⟩ _ ?_;intro G' au j' a' w' hg hk hr';exact⟨au,S j',G',hk,hg,hr'⟩
end
end Go.Ab
