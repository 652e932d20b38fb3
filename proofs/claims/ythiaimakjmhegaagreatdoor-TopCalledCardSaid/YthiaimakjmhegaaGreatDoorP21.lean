/- Parts of the proof. No statement is proved here. -/
import Derived.Test.YthiaimakjmhegaaGreatDoorP19
set_option linter.unusedVariables false
set_option linter.unusedSimpArgs false
set_option maxHeartbeats 16000000
set_option maxRecDepth 20000
namespace Go.Ab
def yo (l:List Nat) (o:Oper):Bool:=match o.dst with
 |some d=>l.contains d
 |none=>i6 o
end Go.Ab
namespace Go.Proofs.YthiaimakjmhegaaGreatDoor.Pl
open Go.Ab Go.Pl
attribute [local irreducible] AWP AOps EStep AQ PStep PRun PCall TCall VCall
theorem vE (l:List bV):∀x∈l.map ba,x.all eH=true:=fun x hx=>by
 obtain⟨c,_,rfl⟩:=zAq.1 hx;rfl
theorem Es (l:List ik):∀x∈l.map ck,x.all eH=true:=fun x hx=>by
 obtain⟨c,_,rfl⟩:=zAq.1 hx;rfl
theorem gv (l:List bI):∀x∈l.map aM,x.all eH=true:=fun x hx=>by
 obtain⟨c,_,rfl⟩:=zAq.1 hx;rfl
theorem qg (l:List bV) (hl:l.length≤1000000000):PCall Tryz.prog 226 [.sl 3 (l.map ba) .no] (.sl 3 (l.map ba) .no):=by
 have hll:(l.map ba).length=l.length:=sMp;refine PCall.body Tryz.func226 rfl rfl Tryz.ntmps226 rfl rfl ?_
 repeat' (first|refine qS ?_|apply sqW|refine rgK fun U V=>?_|(refine aN V ?_;clear V U)|refine aoE (EStep.kC ab rfl rfl rfl rfl rfl tI rfl ?_))
 intro b hb
 repeat' (first|refine qP ?_ (h:=fun hg=>by first|exact PRun.fM ab rfl rfl|exact aa|exact af)|apply sqW|refine rgK fun U V=>?_|(refine aN V ?_;clear V U)|refine aoE (EStep.eK ab rfl rfl rfl rfl (Rd.w rfl tI) (Rd.w rfl tI) (.sl rfl (vE _)) (lkG rfl) (lkG rfl) rfl rfl (by simp only[hll];omega) oM ?_)|refine cX ?_ ?_<;>intro hc<;>try simp only[dE] at hc|refine skW ?_)
 · have:l=[]:=by simpa using hb hc
   subst this;refine rtW ⟨.inr rfl,Ent.nil⟩
 · refine AWP.gM (d:=2) (l:=0) (sz:=3) (ver:=0) (es:=l.map ba) rfl rfl (lu fun e he=>by obtain⟨c,_,rfl⟩:=zAq.1 he;rfl) ?_;exact rtW ⟨.inr rfl,fun _ _ h=>h⟩
theorem l3 (l:List ik) (hl:l.length≤1000000000):PCall Tryz.prog 227 [.sl 3 (l.map ck) .no] (.sl 3 (l.map ck) .no):=by
 have hll:(l.map ck).length=l.length:=sMp;refine PCall.body Tryz.func227 rfl rfl Tryz.ntmps227 rfl rfl ?_
 repeat' (first|refine qS ?_|apply sqW|refine rgK fun U V=>?_|(refine aN V ?_;clear V U)|refine aoE (EStep.kC ab rfl rfl rfl rfl rfl tI rfl ?_))
 intro b hb
 repeat' (first|refine qP ?_ (h:=fun hg=>by first|exact PRun.fM ab rfl rfl|exact aa|exact af)|apply sqW|refine rgK fun U V=>?_|(refine aN V ?_;clear V U)|refine aoE (EStep.eK ab rfl rfl rfl rfl (Rd.w rfl tI) (Rd.w rfl tI) (.sl rfl (Es _)) (lkG rfl) (lkG rfl) rfl rfl (by simp only[hll];omega) oM ?_)|refine cX ?_ ?_<;>intro hc<;>try simp only[dE] at hc|refine skW ?_)
 · have:l=[]:=by simpa using hb hc
   subst this;refine rtW ⟨.inr rfl,Ent.nil⟩
 · refine AWP.gM (d:=2) (l:=0) (sz:=3) (ver:=0) (es:=l.map ck) rfl rfl (lu fun e he=>by obtain⟨c,_,rfl⟩:=zAq.1 he;rfl) ?_;exact rtW ⟨.inr rfl,fun _ _ h=>h⟩
def OkA (o:bc):Prop:=∀m,aD m o=true
theorem mF {l:List bc} (h:∀o∈l,OkA o) (m:Nat):(l:ae).all (aD m)=true:=zA4.2 fun o ho=>h o ho m
theorem yp (l:List bI):OkA (.arr 3 0 (l.map aM)):=fun m=>by simp[aD,aM,aO]
theorem okF (f:aG):OkA (.var (aP f)):=fun m=>by simp[aD,aP,aO,ba,ck,aM]
theorem Et {o0 o1 o2 o3 o4:bc} (ho:∀o∈[o0,o1,o2,o3,o4],OkA o):TCall Tryz.prog 228 [.sl 3 (([]:List bI).map aM) .no] [o0,o1,o2,o3,o4]
 (fun r s=>r=.sl 3 [] .fresh∧s=[o0,o1,o2,o3,o4]):=by
 have hok:([o0,o1,o2,o3,o4]:ae).all (aD 5)=true:=mF ho 5;refine TCall.body Tryz.func228 rfl rfl Tryz.ntmps228 rfl rfl ?_
 repeat' (first|refine qS ?_|apply sqW|refine rgK fun U V=>?_|(refine aN V ?_;clear V U)|refine aoE (EStep.kC ab rfl rfl rfl rfl rfl tI rfl ?_))
 intro b hb
 repeat' (first|refine qP ?_ (h:=fun hg=>by first|exact PRun.fM ab rfl rfl|exact aa|exact af)|apply sqW|refine rgK fun U V=>?_|(refine aN V ?_;clear V U)|refine aoE (EStep.Av ab rfl rfl rfl dCd (Rd.w rfl tI) (Rd.w rfl tI) (.sl rfl (gv [])) (lkG rfl) (lkG rfl) rfl ?_)|refine cX ?_ ?_<;>intro hc<;>try simp only[dE] at hc|refine skW ?_)
 · refine AWP.yb 2 3 rfl ?_;exact rtW ⟨.inr rfl,.sl 3 [] .fresh,[o0,o1,o2,o3,o4],⟨rfl,rfl⟩,rfl,nLr _,hok,rfl,rfl⟩
 · exact rtW ⟨.inr rfl,.sl 3 [] .fresh,[o0,o1,o2,o3,o4],⟨rfl,rfl⟩,rfl,nLr _,hok,rfl,rfl⟩
theorem Gx {l:List bI} (hl:l.length≤1000000) (hne:l≠[]) {o0 o1 o2 o3 o4:bc} (ho:∀o∈[o0,o1,o2,o3,o4],OkA o):TCall Tryz.prog 228 [.sl 3 (l.map aM) .no] [o0,o1,o2,o3,o4]
 (fun r s=>r=.sla 5 3 0 l.length 0∧s=[o0,o1,o2,o3,o4,.arr 3 0 (l.map aM)]):=by
 have hll:(l.map aM).length=l.length:=sMp;have hok:([o0,o1,o2,o3,o4,.arr 3 0 (l.map aM)]:ae).all (aD 6)=true:=mF (fun o h=>by
  rcases zAx.1 (show o∈[o0,o1,o2,o3,o4]++[.arr 3 0 (l.map aM)] from h) with h|h
  · exact ho o h
  · rw[zA9.1 h];exact yp l) 6
 refine TCall.body Tryz.func228 rfl rfl Tryz.ntmps228 rfl rfl ?_
 repeat' (first|refine qS ?_|apply sqW|refine rgK fun U V=>?_|(refine aN V ?_;clear V U)|refine aoE (EStep.kC ab rfl rfl rfl rfl rfl tI rfl ?_))
 intro b hb
 repeat' (first|refine qP ?_ (h:=fun hg=>by first|exact PRun.fM ab rfl rfl|exact aa|exact af)|apply sqW|refine rgK fun U V=>?_|(refine aN V ?_;clear V U)|refine aoE (EStep.eK ab rfl rfl rfl rfl (Rd.w rfl tI) (Rd.w rfl tI) (.sl rfl (gv _)) (lkG rfl) (lkG rfl) rfl rfl (by simp only[hll];omega) oM ?_)|refine cX ?_ ?_<;>intro hc<;>try simp only[dE] at hc|refine skW ?_|refine rtW ?_)
 · exact absurd (by simpa using hb hc) hne
 · exact⟨.inr rfl,.sla 5 3 0 (l.map aM).length 0,[o0,o1,o2,o3,o4,.arr 3 0 (l.map aM)],⟨by rw[hll],rfl⟩,rfl,by simp,hok,rfl,rfl⟩
abbrev zF:List AV:=[.int 0,.nils,.nils,.int 0,.int 0,.int 0,.nils]
abbrev bK (f:aG) (c:AV):List AV:=[.int f.bars,.sl 3 (f.ar.map ba) .no,.sl 3 (f.ends.map ck) .no,.int f.jump.at_,.int f.jump.to,.int f.jump.ch,c]
def clsC (o:Oper):Nat:=match o.dst with
 |some 11=>1
 |some _=>0
 |none=>2
def copS (o0 o1 o2:bc) (f:aG) (c:AV) (more:ae):Nat→Nat→ae
 |j1,j2=>[o0,o1,o2,.var (match j2 with|0=>aP f|1=>aP f|2=>aP f|_=>bK f c),.var zF]++(match j1 with|0=>[]|_=>more)
theorem tv (f:aG) (hf:FIn f) {o0 o1 o2:bc} (c:AV) (more:ae) (hpr:c=.sl 3 [] .fresh∨∃n,c=.sla 5 3 0 n 0) (hok:([o0,o1,o2,.var (bK f c),.var (bK f c)]++more:ae).all (aD ([o0,o1,o2,.var (bK f c),.var (bK f c)]++more:ae).length)=true)
 (w3:VCall Tryz.prog (.fn (.func 228) [] []) [.sl 3 (f.cuts.map aM) .no] [o0,o1,o2,.var (aP f),.var zF] (fun r s=>r=c∧s=[o0,o1,o2,.var (aP f),.var zF]++more)) (hr:aO ([o0,o1,o2,.var (bK f c),.var (bK f c)]++more:ae).length 4 (.agg (bK f c))=true) :
 TCall Tryz.prog 233 [.agg (aP f)] [o0,o1,o2] (fun r s=>r=.agg (bK f c)∧s=[o0,o1,o2,.var (bK f c),.var (bK f c)]++more):=by
 have w1:=qg f.ar hf.ar;have w2:=l3 f.ends hf.ends;refine TCall.pO ab Tryz.func233 rfl rfl Tryz.ntmps233 rfl ?_
 repeat' (first|apply sqW|refine rgK fun U V=>?_|(refine aN V ?_;clear V U)|refine aB ?_|refine aA ?_)
 refine AWP.wD clsC (copS o0 o1 o2 f c more) rfl (by kernel_rfl) dKn rfl dKn (fun U V=>?_)
 repeat' (first
  |refine WQ.q rfl dKn rfl rfl (fun k1 k2 h1 h2 hg=>by first|(first|exact aa|exact pc w1|exact pc w2|exact af)|((have a1:k1=0∨k1=1∨k1=2:=oM);(rcases a1 with rfl|rfl|rfl)<;>(first|exact aa|exact pc w1|exact pc w2|exact af))|((have a1:k1=0∨k1=1∨k1=2:=oM);(have a2:k2=0∨k2=1∨k2=2:=oM);(rcases a1 with rfl|rfl|rfl)<;>(rcases a2 with rfl|rfl|rfl)<;>(first|exact aa|exact pc w1|exact pc w2|exact af))) (by exact rfl) ?_)
 refine WQ.e1 2 (v:=c) (d:=some 11) rfl dKn rfl ?_ ?_
 · intro aw he k2 hk2;have hk:k2=0∨k2=1∨k2=2:=oM;rcases hk with rfl|rfl|rfl
   all_goals
    refine scT w3 rfl rfl rfl rfl rfl tI rfl (by simp only[rds,ai (he 10 dKn)];rfl) ⟨(by rw[aj (he 10 dKn)];first|exact tI|exact rfl),tI⟩ ?_;rintro r s ⟨rfl,rfl⟩;exact⟨rfl,rfl⟩
 repeat' (first
  |refine WQ.q rfl dKn rfl rfl (fun k1 k2 h1 h2 hg=>by first|(first|exact aa|exact af)|((have a1:k1=0∨k1=1∨k1=2:=oM);(rcases a1 with rfl|rfl|rfl)<;>(first|exact aa|exact af))|((have a1:k1=0∨k1=1∨k1=2:=oM);(have a2:k2=0∨k2=1∨k2=2:=oM);(rcases a1 with rfl|rfl|rfl)<;>(rcases a2 with rfl|rfl|rfl)<;>(first|exact aa|exact af))) (by exact rfl) ?_)
 refine WQ.e2 0 1 (v:=.any) (d:=none) rfl dKn rfl ?_ ?_
 · intro aw he k1 _ hk1;have hk:k1=0∨k1=1:=oM;rcases hk with rfl|rfl
   all_goals exact stW ab rfl rfl ((ai (he 12 dKn)).trans rfl) (by rw[aj (he 12 dKn)];first|exact tI|exact rfl) rfl ((ai (he 5 dKn)).trans rfl) (by rw[aj (he 5 dKn)];first|exact tI|exact rfl) rfl rfl rfl rfl rfl rfl rfl ⟨rfl,rfl⟩
 repeat' (first
  |refine WQ.q rfl dKn rfl rfl (fun k1 k2 h1 h2 hg=>by first|(first|exact aa|exact af)|((have a1:k1=0∨k1=1∨k1=2:=oM);(rcases a1 with rfl|rfl|rfl)<;>(first|exact aa|exact af))|((have a1:k1=0∨k1=1∨k1=2:=oM);(have a2:k2=0∨k2=1∨k2=2:=oM);(rcases a1 with rfl|rfl|rfl)<;>(rcases a2 with rfl|rfl|rfl)<;>(first|exact aa|exact af))) (by exact rfl) ?_)
 refine WQ.e2 0 1 (v:=.any) (d:=none) rfl dKn rfl ?_ ?_
 · intro aw he k1 _ hk1;have hk:k1=0∨k1=1:=oM;rcases hk with rfl|rfl
   all_goals exact stW ab rfl rfl ((ai (he 13 dKn)).trans rfl) (by rw[aj (he 13 dKn)];first|exact tI|exact rfl) rfl ((ai (he 8 dKn)).trans rfl) (by rw[aj (he 8 dKn)];first|exact tI|exact rfl) rfl rfl rfl rfl rfl rfl rfl ⟨rfl,rfl⟩
 repeat' (first
  |refine WQ.q rfl dKn rfl rfl (fun k1 k2 h1 h2 hg=>by first|(first|exact aa|exact af)|((have a1:k1=0∨k1=1∨k1=2:=oM);(rcases a1 with rfl|rfl|rfl)<;>(first|exact aa|exact af))|((have a1:k1=0∨k1=1∨k1=2:=oM);(have a2:k2=0∨k2=1∨k2=2:=oM);(rcases a1 with rfl|rfl|rfl)<;>(rcases a2 with rfl|rfl|rfl)<;>(first|exact aa|exact af))) (by exact rfl) ?_)
 refine WQ.e2 1 1 (v:=.any) (d:=none) rfl dKn rfl ?_ ?_
 · intro aw he k1 hk0 hk1;obtain rfl:k1=1:=oM;rcases hpr with rfl|⟨n,rfl⟩
   all_goals exact stW ab rfl rfl ((ai (he 14 dKn)).trans rfl) (by rw[aj (he 14 dKn)];first|exact tI|exact rfl) rfl ((ai (he 11 dKn)).trans rfl) (by rw[aj (he 11 dKn)];first|exact tI|exact rfl) rfl rfl rfl rfl rfl rfl rfl ⟨rfl,rfl⟩
 refine WQ.nil (V _ _ _ ?_);clear V U;show AWP _ _ _ _ _ ([o0,o1,o2,.var (bK f c),.var zF]++more);rcases hpr with rfl|⟨n,rfl⟩
 · repeat' (first|refine qS ?_|apply sqW|refine rgK fun U V=>?_|(refine aN V ?_;clear V U)|refine aS ?_|refine rtW ?_)
   exact⟨.inr rfl,_,[o0,o1,o2,.var (bK f (.sl 3 [] .fresh)),.var (bK f (.sl 3 [] .fresh))]++more,⟨rfl,rfl⟩,zBl,by simp,hok,hr,rfl⟩
 · repeat' (first|refine qS ?_|apply sqW|refine rgK fun U V=>?_|(refine aN V ?_;clear V U)|refine aS ?_|refine rtW ?_)
   exact⟨.inr rfl,_,[o0,o1,o2,.var (bK f (.sla 5 3 0 n 0)),.var (bK f (.sla 5 3 0 n 0))]++more,⟨rfl,rfl⟩,zBl,by simp,hok,hr,rfl⟩
theorem Eu (f:aG) (hf:FIn f) (hc0:f.cuts=[]) {o0 o1 o2:bc} (ho:∀o∈[o0,o1,o2],OkA o):TCall Tryz.prog 233 [.agg (aP f)] [o0,o1,o2]
 (fun r s=>r=.agg (bK f (.sl 3 [] .fresh))∧s=[o0,o1,o2,.var (bK f (.sl 3 [] .fresh)),.var (bK f (.sl 3 [] .fresh))]):=by
 have ho5:∀o∈[o0,o1,o2,.var (aP f),.var zF],OkA o:=fun o h=>by
  rcases zAx.1 (show o∈[o0,o1,o2]++[.var (aP f),.var zF] from h) with h|h
  · exact ho o h
  · rcases zAo.1 h with h|h
    · rw[h];exact okF f
    · rw[zA9.1 h];exact fun m=>rfl
 have w3:=TCall.val (first:=[]) (aQ:=[]) (avs:=[.sl 3 (f.cuts.map aM) .no]) (by rw[hc0];exact Et ho5);have e5:∀m,aD m (.var (bK f (.sl 3 [] .fresh)))=true:=fun m=>by simp[aD,bK,aO,ba,ck]
 refine tv f hf (.sl 3 [] .fresh) [] (.inl rfl) ?_ w3 (by simp[aO,bK,ba,ck]);have e1:=ho o0 sMp 5;have e2:=ho o1 sMp 5;have e3:=ho o2 sMp 5;show([o0,o1,o2,.var (bK f (.sl 3 [] .fresh)),.var (bK f (.sl 3 [] .fresh))]:ae).all (aD 5)=true;simp only[zB4,zBg,e1,e2,e3,e5];rfl
theorem yr (f:aG) (hf:FIn f) (hl:f.cuts.length≤1000000) (hne:f.cuts≠[]) {o0 o1 o2:bc} (ho:∀o∈[o0,o1,o2],OkA o):TCall Tryz.prog 233 [.agg (aP f)] [o0,o1,o2]
 (fun r s=>r=.agg (bK f (.sla 5 3 0 f.cuts.length 0))∧s=[o0,o1,o2,.var (bK f (.sla 5 3 0 f.cuts.length 0)),.var (bK f (.sla 5 3 0 f.cuts.length 0)),.arr 3 0 (f.cuts.map aM)]):=by
 have ho5:∀o∈[o0,o1,o2,.var (aP f),.var zF],OkA o:=fun o h=>by
  rcases zAx.1 (show o∈[o0,o1,o2]++[.var (aP f),.var zF] from h) with h|h
  · exact ho o h
  · rcases zAo.1 h with h|h
    · rw[h];exact okF f
    · rw[zA9.1 h];exact fun m=>rfl
 have w3:=TCall.val (first:=[]) (aQ:=[]) (avs:=[.sl 3 (f.cuts.map aM) .no]) (Gx hl hne ho5);refine tv f hf (.sla 5 3 0 f.cuts.length 0) [.arr 3 0 (f.cuts.map aM)] (.inr ⟨_,rfl⟩) ?_ w3 (by simp[aO,bK,ba,ck]);have e1:=ho o0 sMp 6;have e2:=ho o1 sMp 6;have e3:=ho o2 sMp 6;have e4:=yp f.cuts 6;have e5:aD 6 (.var (bK f (.sla 5 3 0 f.cuts.length 0)))=true:=by simp[aD,bK,aO,ba,ck]
 show([o0,o1,o2,.var (bK f (.sla 5 3 0 f.cuts.length 0)),.var (bK f (.sla 5 3 0 f.cuts.length 0)),.arr 3 0 (f.cuts.map aM)]:ae).all (aD 6)=true;simp only[zB4,zBg,e1,e2,e3,e4,e5];rfl
def l4 (l:List bI) (i j m:Nat):List (List AV):=(l.map aM).take i++(((l.map aM).drop j).take m++(l.map aM).drop (i+m))
theorem Gy {l:List bI} {i j m:Nat} (h1:i+m≤l.length) (h2:j+m≤l.length):(l4 l i j m).length=l.length:=by
 unfold l4;simp only[lLa,zAn,zB0,lLm];omega
theorem Ew {l:List bI} {i j m q:Nat} (hj:j=i+1) (hm:i+m=q) (hl:j+m=l.length):(l4 l i j m).take q=(l.eraseIdx i).map aM:=by
 unfold l4;rw[List.eraseIdx_eq_take_drop_succ,zBw,List.map_take,List.map_drop,←hj,←zBo,zBm (by simp only[lLa,zAn,zB0,lLm];omega)];rw[zAh (by simp only[lLa,zAn,zB0,lLm];omega)];congr 1;rw[zAh (by simp only[zB0,lLm];omega)]
theorem Gz {l:List bI} (hl:l.length≤1000000) {i:Nat} (hi:i<l.length) {o0 o1 o2 o3 o4:bc} (hok:([o0,o1,o2,o3,o4]:ae).all (aD 6)=true) :
 TCall Tryz.prog 235 [.sla 5 3 0 l.length 0,.int i,.int ((i:Int)+1)] [o0,o1,o2,o3,o4,.arr 3 0 (l.map aM)]
 (fun r s=>r=At 5 3 (l.length - 1)∧s=[o0,o1,o2,o3,o4,.arr 3 0 ((l.eraseIdx i).map aM)]):=by
 have so:([o0,o1,o2,o3,o4,.arr 3 0 ((l.eraseIdx i).map aM)]:ae).all (aD 6)=true:=by
  have e4:=yp (l.eraseIdx i) 6;rw[show([o0,o1,o2,o3,o4,.arr 3 0 ((l.eraseIdx i).map aM)]:ae)=[o0,o1,o2,o3,o4]++[.arr 3 0 ((l.eraseIdx i).map aM)] from rfl,zCo,hok,zAy];simp only[zB4,zBg,e4];rfl
 have hll:(l.map aM).length=l.length:=sMp;have ej:0+((i:Int)+1).toNat=i+1:=oM;have em:l.length - ((i:Int)+1).toNat=l.length - (i+1):=oM;obtain⟨J,hJ⟩:∃J,0+((i:Int)+1).toNat=J:=⟨_,rfl⟩
 obtain⟨M,hM⟩:∃M,l.length - ((i:Int)+1).toNat=M:=⟨_,rfl⟩
 have hdl:(l4 l i J M).length=l.length:=Gy oM oM;have hdt:=Ew (l:=l) (i:=i) (j:=J) (m:=M) (q:=l.length - 1) oM oM oM;have hlo:∀{o:Oper} {env:Env} {x y:Operand} {t:TypeId},o.op=.slice t x (some y) none none→rdv env x=some (.sla 5 3 0 l.length 0)→rdn env x→rdv env y=some (.int ((i:Int)+1))→rdn env y→dO tab t=some 3→PRun Tryz.prog o env [o0,o1,o2,o3,o4,.arr 3 0 (l.map aM)] (.sla 5 3 J M 0):=fun a1 a2 a3 a4 a5 a6=>by
  have:=PRun.rQ (σ:=[o0,o1,o2,o3,o4,.arr 3 0 (l.map aM)]) ab a1 a2 a3 a4 a5 a6 rfl ⟨oM,oM⟩;rw[hJ,hM] at this;exact this
 rcases i with _|i
 · rcases hn:l.length with _|_|k
   · omega
   · rw[hn] at hl hll hdl hdt hlo hi hM em;refine TCall.body Tryz.func235 rfl rfl Tryz.ntmps235 rfl rfl ?_
     repeat' (first|refine qP ?_ (h:=fun hg=>by first|exact aa|exact PRun.lJ ab rfl rfl nd rfl nd rfl nd rfl nd rfl rfl oM ⟨oM,oM,oM⟩ oM|exact PRun.j8 ab rfl rfl nd rfl|exact af)|apply sqW|refine rgK fun U V=>?_|(refine aN V ?_;clear V U)|refine cX ?_ ?_<;>intro hc<;>try simp only[dE] at hc|refine skW ?_|refine rtW ?_)
     all_goals (first|(exfalso;simp at hc;done)|(exfalso;omega)|skip)
     refine AWP.dZ (fun j=>match j with|0=>[o0,o1,o2,o3,o4,.arr 3 0 (l.map aM)]|_=>[o0,o1,o2,o3,o4,.arr 3 0 (l4 l 0 J M)]) rfl (by kernel_rfl) dKn rfl dKn (fun U V=>?_)
     repeat' (first
      |refine yt (h:=by refine⟨?_,?_,?_,?_⟩<;>intro hh hg<;>first|exact absurd hh dKn|exact hlo rfl rfl nd rfl nd rfl|exact PRun.oJ ab rfl rfl nd rfl nd rfl rfl oM|exact aa|exact af|fail) (hk:=?_)|fail)
     refine YQ.e (v:=.sl 3 [] (.own 5)) (d:=some 26) rfl rfl rfl ?_ ?_
     · intro aw he;exact EStep.kj (l:=5) ab 0 J M rfl rfl rfl dCd (Rd.w ((ai (he 22 dKn)).trans rfl) (by rw[aj (he 22 dKn)];first|exact tI|exact rfl)) rfl (show _=At 5 3 (0+M) by rw[show 0+M=0 by omega];rfl) rfl (Rd.w ((ai (he 25 dKn)).trans rfl) (by rw[aj (he 25 dKn)];first|exact tI|exact rfl)) (gv l) (lkG rfl) (lkG rfl) (lkG rfl) rfl oM oM oM rfl ⟨rfl,rfl⟩
     repeat' (first
      |refine yt (hk:=?_)|fail)
     refine YQ.nil (V _ _ ?_);clear V U
     repeat' (first|refine qP ?_ (h:=fun hg=>by first|exact aa|exact PRun.ki ab 0 1 rfl rfl nd rfl rfl nd rfl nd rfl rfl ⟨oM,oM⟩|exact af)|apply sqW|refine rgK fun U V=>?_|(refine aN V ?_;clear V U)|refine aoE (EStep.nD ab rfl rfl rfl tI rfl (lkG rfl) (lkG rfl) rfl rfl rfl ?_)|refine rtW ?_)
     refine⟨.inr rfl,At 5 3 0,[o0,o1,o2,o3,o4,.arr 3 0 ((l.eraseIdx 0).map aM)],⟨rfl,rfl⟩,?_,by simp,so,rfl,rfl⟩;show[o0,o1,o2,o3,o4,.arr 3 0 ((l4 l 0 J M).take 0)]=_;rw[hdt]
   · rw[hn] at hl hll hdl hdt hlo hi hM em;refine TCall.body Tryz.func235 rfl rfl Tryz.ntmps235 rfl rfl ?_
     repeat' (first|refine qP ?_ (h:=fun hg=>by first|exact aa|exact PRun.lJ ab rfl rfl nd rfl nd rfl nd rfl nd rfl rfl oM ⟨oM,oM,oM⟩ oM|exact PRun.j8 ab rfl rfl nd rfl|exact af)|apply sqW|refine rgK fun U V=>?_|(refine aN V ?_;clear V U)|refine cX ?_ ?_<;>intro hc<;>try simp only[dE] at hc|refine skW ?_|refine rtW ?_)
     all_goals (first|(exfalso;simp at hc;done)|(exfalso;omega)|skip)
     refine AWP.dZ (fun j=>match j with|0=>[o0,o1,o2,o3,o4,.arr 3 0 (l.map aM)]|_=>[o0,o1,o2,o3,o4,.arr 3 0 (l4 l 0 J M)]) rfl (by kernel_rfl) dKn rfl dKn (fun U V=>?_)
     repeat' (first
      |refine yt (h:=by refine⟨?_,?_,?_,?_⟩<;>intro hh hg<;>first|exact absurd hh dKn|exact hlo rfl rfl nd rfl nd rfl|exact PRun.oJ ab rfl rfl nd rfl nd rfl rfl oM|exact aa|exact af|fail) (hk:=?_)|fail)
     refine YQ.e (v:=.sla 5 3 0 (k+1) 0) (d:=some 26) rfl rfl rfl ?_ ?_
     · intro aw he;exact EStep.kj (l:=5) ab 0 J M rfl rfl rfl dCd (Rd.w ((ai (he 22 dKn)).trans rfl) (by rw[aj (he 22 dKn)];first|exact tI|exact rfl)) rfl (show _=At 5 3 (0+M) by rw[show 0+M=k+1 by omega];rfl) rfl (Rd.w ((ai (he 25 dKn)).trans rfl) (by rw[aj (he 25 dKn)];first|exact tI|exact rfl)) (gv l) (lkG rfl) (lkG rfl) (lkG rfl) rfl oM oM oM rfl ⟨rfl,rfl⟩
     repeat' (first
      |refine yt (hk:=?_)|fail)
     refine YQ.nil (V _ _ ?_);clear V U
     repeat' (first|refine qP ?_ (h:=fun hg=>by first|exact aa|exact PRun.j8 ab rfl rfl nd rfl|exact PRun.ki ab (k+1) (k+1+1) rfl rfl nd rfl rfl nd rfl nd rfl rfl ⟨oM,oM⟩|exact af)|apply sqW|refine rgK fun U V=>?_|(refine aN V ?_;clear V U)|refine aoE (EStep.nD ab rfl rfl rfl tI rfl (lkG rfl) (lkG rfl) rfl rfl rfl ?_)|refine rtW ?_)
     refine⟨.inr rfl,At 5 3 (k+1),[o0,o1,o2,o3,o4,.arr 3 0 ((l.eraseIdx 0).map aM)],⟨rfl,rfl⟩,?_,by simp,so,rfl,rfl⟩;show[o0,o1,o2,o3,o4,.arr 3 0 ((l4 l 0 J M).take (k+1))]=_;rw[show k+1=k+1+1 - 1 from rfl,hdt]
 · rcases hn:l.length with _|_|k
   · omega
   · omega
   · rw[hn] at hl hll hdl hdt hlo hi hM em;refine TCall.body Tryz.func235 rfl rfl Tryz.ntmps235 rfl rfl ?_
     repeat' (first|refine qP ?_ (h:=fun hg=>by first|exact aa|exact PRun.lJ ab rfl rfl nd rfl nd rfl nd rfl nd rfl rfl oM ⟨oM,oM,oM⟩ oM|exact PRun.j8 ab rfl rfl nd rfl|exact af)|apply sqW|refine rgK fun U V=>?_|(refine aN V ?_;clear V U)|refine cX ?_ ?_<;>intro hc<;>try simp only[dE] at hc|refine skW ?_|refine rtW ?_)
     all_goals (first|(exfalso;simp at hc;done)|(exfalso;simp at hc;omega)|(exfalso;omega)|skip)
     refine AWP.dZ (fun j=>match j with|0=>[o0,o1,o2,o3,o4,.arr 3 0 (l.map aM)]|_=>[o0,o1,o2,o3,o4,.arr 3 0 (l4 l (i+1) J M)]) rfl (by kernel_rfl) dKn rfl dKn (fun U V=>?_)
     repeat' (first
      |refine yt (h:=by refine⟨?_,?_,?_,?_⟩<;>intro hh hg<;>first|exact absurd hh dKn|exact hlo rfl rfl nd rfl nd rfl|exact PRun.xD ab rfl rfl nd rfl nd rfl rfl ⟨oM,oM⟩|exact aa|exact af|fail) (hk:=?_)|fail)
     refine YQ.e (v:=.sla 5 3 0 (k+1) 0) (d:=some 26) rfl rfl rfl ?_ ?_
     · intro aw he;exact EStep.kj (l:=5) ab (i+1) J M rfl rfl rfl dCd (Rd.w ((ai (he 22 dKn)).trans rfl) (by rw[aj (he 22 dKn)];first|exact tI|exact rfl)) rfl (show _=At 5 3 (i+1+M) by rw[show i+1+M=k+1 by omega];rfl) rfl (Rd.w ((ai (he 25 dKn)).trans rfl) (by rw[aj (he 25 dKn)];first|exact tI|exact rfl)) (gv l) (lkG rfl) (lkG rfl) (lkG rfl) rfl oM oM oM rfl ⟨rfl,rfl⟩
     repeat' (first
      |refine yt (hk:=?_)|fail)
     refine YQ.nil (V _ _ ?_);clear V U
     repeat' (first|refine qP ?_ (h:=fun hg=>by first|exact aa|exact PRun.j8 ab rfl rfl nd rfl|exact PRun.ki ab (k+1) (k+1+1) rfl rfl nd rfl rfl nd rfl nd rfl rfl ⟨oM,oM⟩|exact af)|apply sqW|refine rgK fun U V=>?_|(refine aN V ?_;clear V U)|refine aoE (EStep.nD ab rfl rfl rfl tI rfl (lkG rfl) (lkG rfl) rfl rfl rfl ?_)|refine rtW ?_)
     refine⟨.inr rfl,At 5 3 (k+1),[o0,o1,o2,o3,o4,.arr 3 0 ((l.eraseIdx (i+1)).map aM)],⟨rfl,rfl⟩,?_,by simp,so,rfl,rfl⟩;show[o0,o1,o2,o3,o4,.arr 3 0 ((l4 l (i+1) J M).take (k+1))]=_;rw[show k+1=k+1+1 - 1 from rfl,hdt]
theorem flCt:kQ Tryz.prog 202=some [.int .i64,.int .i64,.int .i64]:=by kernel_rfl
def kZ (c x:bI):Bool:=c.from_==x.from_&&(c.ak==x.ak&&(c.pass==x.pass&&true))
theorem oR (c x:bI):kZ c x=true↔x=c:=by
 obtain⟨a,b,p⟩:=c;obtain⟨a2,b2,p2⟩:=x;unfold kZ;simp only[zCf,zA0,beq_iff_eq,bI.mk.injEq];exact⟨fun h=>⟨h.1.symm,h.2.1.symm,h.2.2.symm⟩,fun h=>⟨h.1.symm,h.2.1.symm,h.2.2.symm⟩⟩
theorem qh (l:List bI) (c:bI) (hl:l.length≤1000000000):PCall Tryz.prog 234 [.sl 3 (l.map aM) .no,.agg (aM c)] (.int (az (kZ c) l)):=by
 refine PCall.body Tryz.func234 rfl rfl Tryz.ntmps234 rfl rfl ?_
 repeat' (first|refine qT ?_|apply sqW|refine rgK fun U V=>?_|(refine aN V ?_;clear V U)|refine aB ?_|refine blK ?_)
 refine lpW (ι:=Nat) (fun k=>[(0,.sl 3 (l.map aM) .no),(3,.ptr 0 0),(6,.sl 3 (l.map aM) .no),(7,.int l.length),(8,.int k)]) (fun _=>[.var (aM c)]) (fun k=>k≤l.length∧∀j,j<k→kZ c (l.getD j default)=false) (fun k=>l.length - k) 0 ⟨nZl _,fun j h=>absurd h oM⟩ ⟨rfl,rfl,rfl,rfl,rfl,tI⟩ rfl ?_;rintro k ⟨hk,au⟩;by_cases hlt:k<l.length
 · repeat' (first|refine qS ?_|apply sqW|refine rgK fun U V=>?_|(refine aN V ?_;clear V U)|refine cX ?_ ?_<;>intro hc<;>try simp only[dE] at hc|refine blK ?_|refine exW ?_|refine skW ?_|refine rtW ?_|refine kD fun U V=>?_|(refine aqN (V _ ?_);clear V U)|refine aqQ rfl rfl (fun hg=>by first|exact aa|exact PRun.eqS flCt rfl rfl nd rfl nd rfl|exact af) (by exact rfl) ?_)
   all_goals first|(exfalso;omega)|skip
   · refine⟨.inr rfl,?_⟩;rw[show az (kZ c) l=k from bP hlt hc au];exact fun _ _ h=>h
   · exact⟨k+1,⟨oM,fun j hj=>aH au hc hj⟩,oM,⟨rfl,rfl,rfl,rfl,rfl,tI⟩,rfl⟩
 · repeat' (first|refine qS ?_|apply sqW|refine rgK fun U V=>?_|(refine aN V ?_;clear V U)|refine cX ?_ ?_<;>intro hc<;>try simp only[dE] at hc|refine blK ?_|refine exW ?_|refine skW ?_|refine rtW ?_|refine kD fun U V=>?_|refine aqQ rfl rfl (fun hg=>by first|exact aa|exact af) (by exact rfl) ?_)
   all_goals first|(exfalso;omega)|skip
   refine⟨.inr rfl,?_⟩;rw[show az (kZ c) l = -1 from bX fun j hj=>au j oM];exact fun _ _ h=>h
theorem qi (l:List bI) (c:bI):decide (az (kZ c) l≥0)=decide (c∈l):=by
 rw[gA,zAi,zCw,dEt];constructor
 · rintro⟨x,hx,h⟩;rw[←(oR c x).1 h];exact hx
 · intro h;exact⟨c,h,(oR c c).2 rfl⟩
theorem tw (l:List bI) (c:bI) (hl:l.length≤1000000000):PCall Tryz.prog 232 [.sl 3 (l.map aM) .no,.agg (aM c)] (.b (decide (c∈l))):=by
 rw[←qi];refine PCall.body Tryz.func232 rfl rfl Tryz.ntmps232 rfl rfl ?_
 repeat' (first|refine qP ?_ (h:=fun hg=>by first|exact aa|exact pc (qh l c hl)|exact af)|apply sqW|refine rgK fun U V=>?_|(refine aN V ?_;clear V U)|refine aB ?_|refine rtW ?_)
 exact⟨.inr rfl,Ent.b rfl⟩
theorem oS {l:List bI} {c:bI} {k:Nat} (hk:k<l.length) (h:kZ c (l.getD k default)=true) (au:∀j,j<k→kZ c (l.getD j default)=false):l.erase c=l.eraseIdx k:=by
 induction l generalizing k with
 |nil=>simp at hk
 | cons x l ih =>
   cases k with
   | zero =>
     have:x=c:=(oR c x).1 h;rw[this,List.erase_cons_head];rfl
   | succ k =>
     have h0:=au 0 oM;have hne:x≠c:=fun e=>by
      have:kZ c x=true:=(oR c x).2 e;exact absurd (h0.symm.trans this) dCd
     rw[List.erase_cons_tail (by simpa using hne),List.eraseIdx_cons_succ,ih (by simpa using hk) h fun j hj=>au (j+1) oM]
def noF:aG:=⟨0,[],[],⟨0,0,0⟩,[]⟩
theorem jU:Ent (.agg zF) (.agg (aP noF)):=Ent.agg rfl fun i u v hu hv=>by
 match i,hu,hv with
 |0,hu,hv=>cases hu;cases hv;exact Ent.bO _
 |1,hu,hv=>cases hu;cases hv;exact Ent.nil
 |2,hu,hv=>cases hu;cases hv;exact Ent.nil
 |3,hu,hv=>cases hu;cases hv;exact Ent.bO _
 |4,hu,hv=>cases hu;cases hv;exact Ent.bO _
 |5,hu,hv=>cases hu;cases hv;exact Ent.bO _
 |6,hu,hv=>cases hu;cases hv;exact Ent.nil
 |i+7,hu,hv=>cases hu
def iM (f:aG) (c:bI):aG×Int:=if (!aW f||!fU f.bars c)=true then (noF,1) else if c∈f.cuts then (noF,5) else if f.cuts.length=100 then (noF,2) else (lH f c,0)
def GA (r:aG×Int):AV:=.tup [.agg (aP r.1),.int r.2]
theorem sq {f:aG} (h:aW f=true):f.cuts.length≤100:=by
 unfold aW at h;simp only[zA0,dEt] at h;exact h.1.2.2
theorem GD (l:List bI):∀e∈l.map aM,∀a∈e,∀M B x,ag M B a x→ag M [] a x:=lu fun e he=>by obtain⟨c,_,rfl⟩:=zAq.1 he;rfl
theorem GF (f:aG) (hf:FIn f) (c:bI):PCall Tryz.prog 167 [.agg (aP f),.agg (aM c)] (GA (iM f c)):=by
 have h1:=gD f hf;have h2:=tl f c;have h3:=tw f.cuts c hf.cuts;by_cases hA:(!aW f||!fU f.bars c)=true
 · have e:iM f c=(noF,1):=if_pos hA;rw[e];generalize aW f=x at *;generalize fU f.bars c=y at *;refine PCall.bN ab Tryz.func167 rfl rfl Tryz.ntmps167 rfl ?_
   repeat' (first|refine qP ?_ (h:=fun hg=>by first|exact aa|exact pc h1|exact pc h2|exact pbD ab rfl rfl nds|exact af)|apply sqW|refine rgK fun U V=>?_|(refine aN V ?_;clear V U)|refine aB ?_|refine aA ?_|refine blK ?_)
   refine cdW rfl tI (fun hc=>?_) (fun hc=>absurd (hA.symm.trans hc) dCd)
   repeat' (first|refine qP ?_ (h:=fun hg=>by first|exact aa|exact pbD ab rfl rfl nds|exact af)|apply sqW|refine rgK fun U V=>?_|(refine aN V ?_;clear V U)|refine aS ?_|refine rtW ?_)
   exact⟨.inr rfl,_,rfl,Ent.jl jU (Ent.bO _)⟩
 have hA2:(!aW f||!fU f.bars c)=false:=by simpa using hA
 have bL:aW f=true:=by
  rw[zAg] at hA2;simpa using hA2.1
 have hlen:=sq bL;by_cases hB:c∈f.cuts
 · have e:iM f c=(noF,5):=by unfold iM;rw[if_neg hA,if_pos hB]
   rw[e];rw[decide_eq_true hB] at h3;generalize aW f=x at *;generalize fU f.bars c=y at *;refine PCall.bN ab Tryz.func167 rfl rfl Tryz.ntmps167 rfl ?_
   repeat' (first|refine qP ?_ (h:=fun hg=>by first|exact aa|exact pc h1|exact pc h2|exact pbD ab rfl rfl nds|exact af)|apply sqW|refine rgK fun U V=>?_|(refine aN V ?_;clear V U)|refine aB ?_|refine aA ?_|refine blK ?_)
   refine cdW rfl tI (fun hc=>absurd (hA2.symm.trans hc) dCd) (fun hc=>?_)
   repeat' (first|refine qP ?_ (h:=fun hg=>by first|exact aa|exact pc h3|exact af)|apply sqW|refine rgK fun U V=>?_|(refine aN V ?_;clear V U))
   refine cdW rfl tI (fun hc=>?_) (fun hc=>absurd hc dCd)
   repeat' (first|refine qP ?_ (h:=fun hg=>by first|exact aa|exact pbD ab rfl rfl nds|exact af)|apply sqW|refine rgK fun U V=>?_|(refine aN V ?_;clear V U)|refine aS ?_|refine rtW ?_)
   exact⟨.inr rfl,_,rfl,Ent.jl jU (Ent.bO _)⟩
 rw[decide_eq_false hB] at h3;by_cases hC:f.cuts.length=100
 · have e:iM f c=(noF,2):=by unfold iM;rw[if_neg hA,if_neg hB,if_pos hC]
   rw[e];generalize aW f=x at *;generalize fU f.bars c=y at *;refine PCall.bN ab Tryz.func167 rfl rfl Tryz.ntmps167 rfl ?_
   repeat' (first|refine qP ?_ (h:=fun hg=>by first|exact aa|exact pc h1|exact pc h2|exact pbD ab rfl rfl nds|exact af)|apply sqW|refine rgK fun U V=>?_|(refine aN V ?_;clear V U)|refine aB ?_|refine aA ?_|refine blK ?_)
   refine cdW rfl tI (fun hc=>absurd (hA2.symm.trans hc) dCd) (fun hc=>?_)
   repeat' (first|refine qP ?_ (h:=fun hg=>by first|exact aa|exact pc h3|exact af)|apply sqW|refine rgK fun U V=>?_|(refine aN V ?_;clear V U))
   refine cdW rfl tI (fun hc=>absurd hc dCd) (fun hc=>?_)
   repeat' (first|refine qT ?_|apply sqW|refine rgK fun U V=>?_|(refine aN V ?_;clear V U))
   refine cdW rfl tI (fun hc=>?_) (fun hc=>absurd hc (by first|(simp;done)|(simp;omega)))
   repeat' (first|refine qP ?_ (h:=fun hg=>by first|exact aa|exact pbD ab rfl rfl nds|exact af)|apply sqW|refine rgK fun U V=>?_|(refine aN V ?_;clear V U)|refine aS ?_|refine rtW ?_)
   exact⟨.inr rfl,_,rfl,Ent.jl jU (Ent.bO _)⟩
 have e:iM f c=(lH f c,0):=by unfold iM;rw[if_neg hA,if_neg hB,if_neg hC]
 rw[e];by_cases hne:f.cuts=[]
 · have h4:=TCall.val (first:=[]) (aQ:=[]) (avs:=[.agg (aP f)]) (Eu f hf hne (o0:=.var (aP f)) (o1:=.var (aM c)) (o2:=.var zF) (fun o ho=>by
    simp only[zAo,zCe,or_false] at ho;rcases ho with rfl|rfl|rfl
    · exact okF f
    · exact fun m=>rfl
    · exact fun m=>rfl))
   have e2:lH f c=⟨f.bars,f.ar,f.ends,f.jump,[c]⟩:=by unfold lH;rw[hne];rfl
   rw[e2];generalize aW f=x at *;generalize fU f.bars c=y at *;refine PCall.bN ab Tryz.func167 rfl rfl Tryz.ntmps167 rfl ?_
   repeat' (first|refine qP ?_ (h:=fun hg=>by first|exact aa|exact pc h1|exact pc h2|exact pbD ab rfl rfl nds|exact af)|apply sqW|refine rgK fun U V=>?_|(refine aN V ?_;clear V U)|refine aB ?_|refine aA ?_|refine blK ?_)
   refine cdW rfl tI (fun hc=>absurd (hA2.symm.trans hc) dCd) (fun hc=>?_)
   repeat' (first|refine qP ?_ (h:=fun hg=>by first|exact aa|exact pc h3|exact af)|apply sqW|refine rgK fun U V=>?_|(refine aN V ?_;clear V U))
   refine cdW rfl tI (fun hc=>absurd hc dCd) (fun hc=>?_)
   repeat' (first|refine qT ?_|apply sqW|refine rgK fun U V=>?_|(refine aN V ?_;clear V U))
   refine cdW rfl tI (fun hc=>absurd hc (by first|(simp;done)|(simp;omega))) (fun hc=>?_)
   repeat' (first|refine qS ?_|apply sqW|refine rgK fun U V=>?_|refine aoE (scT (h4) rfl rfl rfl rfl rfl nd rfl rfl nds ?_)|refine skW ?_)
   rintro r s ⟨rfl,rfl⟩
   repeat' (first|refine aS ?_|(refine aN V ?_;clear V U))
   refine AWP.DB 3 ?_;show AWP _ _ _ _ _ [.var (bK f (.sl 3 [] .fresh)),.var (aM c),.var zF,.var (bK f (.sl 3 [] .fresh)),.var (bK f (.sl 3 [] .fresh)),.own 3 0]
   repeat' (first|refine qP ?_ (h:=fun hg=>by first|exact aa|exact pbS ab rfl rfl nds|exact af)|apply sqW|refine rgK fun U V=>?_|(refine aN V ?_;clear V U)|refine aS ?_|refine aoE (EStep.I0 (l:=5) (es:=[]) (m:=1) (es3:=[c].map aM) ab rfl rfl rfl dCd (.inr ⟨rfl,rfl⟩) (Rd.w rfl tI) rfl (Rd.w rfl tI) (.sl rfl (gv [c])) (zBz _) (lkG rfl) (lkG rfl) rfl rfl (by show(0+1) * 24≤140737488355328;omega) (by show 0+1≤9223372036854775807;omega) rfl rfl ?_)|refine rtW ?_)
   exact⟨.inr rfl,_,rfl,Ent.of rfl⟩
 · have h4:=TCall.val (first:=[]) (aQ:=[]) (avs:=[.agg (aP f)]) (yr f hf oM hne (o0:=.var (aP f)) (o1:=.var (aM c)) (o2:=.var zF) (fun o ho=>by
    simp only[zAo,zCe,or_false] at ho;rcases ho with rfl|rfl|rfl
    · exact okF f
    · exact fun m=>rfl
    · exact fun m=>rfl))
   have hll:(f.cuts.map aM).length=f.cuts.length:=sMp;have fc:j9 5 3 1 ((f.cuts++[c]).map aM) (.sla 5 3 0 (f.cuts.length+1) 1)=.sl 3 ((f.cuts++[c]).map aM) .no:=by
    unfold j9;dsimp only;rw[if_pos ⟨rfl,rfl,rfl,by simp,rfl⟩]
   generalize aW f=x at *;generalize fU f.bars c=y at *;refine PCall.bN ab Tryz.func167 rfl rfl Tryz.ntmps167 rfl ?_
   repeat' (first|refine qP ?_ (h:=fun hg=>by first|exact aa|exact pc h1|exact pc h2|exact pbD ab rfl rfl nds|exact af)|apply sqW|refine rgK fun U V=>?_|(refine aN V ?_;clear V U)|refine aB ?_|refine aA ?_|refine blK ?_)
   refine cdW rfl tI (fun hc=>absurd (hA2.symm.trans hc) dCd) (fun hc=>?_)
   repeat' (first|refine qP ?_ (h:=fun hg=>by first|exact aa|exact pc h3|exact af)|apply sqW|refine rgK fun U V=>?_|(refine aN V ?_;clear V U))
   refine cdW rfl tI (fun hc=>absurd hc dCd) (fun hc=>?_)
   repeat' (first|refine qT ?_|apply sqW|refine rgK fun U V=>?_|(refine aN V ?_;clear V U))
   refine cdW rfl tI (fun hc=>absurd hc (by first|(simp;done)|(simp;omega))) (fun hc=>?_)
   repeat' (first|refine qS ?_|apply sqW|refine rgK fun U V=>?_|refine aoE (scT (h4) rfl rfl rfl rfl rfl nd rfl rfl nds ?_)|refine skW ?_)
   rintro r s ⟨rfl,rfl⟩
   repeat' (first|refine qP ?_ (h:=fun hg=>by first|exact aa|exact pbS ab rfl rfl nds|exact af)|apply sqW|refine rgK fun U V=>?_|(refine aN V ?_;clear V U)|refine aS ?_|refine aoE (EStep.tm (l:=5) (sz:=3) (m:=f.cuts.length+1) (es:=f.cuts.map aM) (es3:=(f.cuts++[c]).map aM) ab rfl rfl rfl dCd (Rd.w rfl tI) (.inl ⟨by rw[hll],by simpa using hne⟩) rfl (Rd.w rfl tI) (.sl rfl (gv [c])) (zBz _) (lkG rfl) (lkG rfl) rfl rfl (by rw[hll];show(f.cuts.length+1) * 24≤140737488355328;omega) (by rw[hll];show f.cuts.length+1≤9223372036854775807;omega) (by rw[hll];rfl) (by rw[zBw];rfl) ?_))
   refine AWP.rS (l:=5) (sz:=3) (ver:=1) (es:=(f.cuts++[c]).map aM) rfl (GD _) ?_;refine AWP.cY [(4,.ptr 2 0),(5,.int 0)] ⟨rfl,rfl,tI⟩ ?_;show AWP _ _ _ _ _ [_,_,.var (bK f (j9 5 3 1 ((f.cuts++[c]).map aM) (.sla 5 3 0 (f.cuts.length+1) 1))),_,_,_];rw[fc];exact rtW ⟨.inr rfl,_,rfl,Ent.of rfl⟩
def gX (f:aG) (c:bI):aG×Int:=if aW f=false then (noF,1) else if c∉f.cuts then (noF,4) else (jx f c,0)
theorem Ex (f:aG) (hf:FIn f) (c:bI):PCall Tryz.prog 169 [.agg (aP f),.agg (aM c)] (GA (gX f c)):=by
 have h1:=gD f hf;have h2:=qh f.cuts c hf.cuts;by_cases hA:aW f=false
 · have e:gX f c=(noF,1):=if_pos hA;rw[e];rw[hA] at h1;refine PCall.bN ab Tryz.func169 rfl rfl Tryz.ntmps169 rfl ?_
   repeat' (first|refine qP ?_ (h:=fun hg=>by first|exact aa|exact pc h1|exact af)|apply sqW|refine rgK fun U V=>?_|(refine aN V ?_;clear V U)|refine aB ?_|refine aA ?_)
   refine cdW rfl tI (fun hc=>?_) (fun hc=>absurd hc dCd)
   repeat' (first|refine qP ?_ (h:=fun hg=>by first|exact aa|exact pbD ab rfl rfl nds|exact af)|apply sqW|refine rgK fun U V=>?_|(refine aN V ?_;clear V U)|refine aS ?_|refine rtW ?_)
   exact⟨.inr rfl,_,rfl,Ent.jl jU (Ent.bO _)⟩
 have bL:aW f=true:=by simpa using hA
 rw[bL] at h1;have hlen:=sq bL;by_cases hB:c∉f.cuts
 · have e:gX f c=(noF,4):=by unfold gX;rw[if_neg hA,if_pos hB]
   rw[e];have B9:az (kZ c) f.cuts<0:=by
    have:=qi f.cuts c;rw[decide_eq_false hB] at this;simpa using this
   refine PCall.bN ab Tryz.func169 rfl rfl Tryz.ntmps169 rfl ?_
   repeat' (first|refine qP ?_ (h:=fun hg=>by first|exact aa|exact pc h1|exact af)|apply sqW|refine rgK fun U V=>?_|(refine aN V ?_;clear V U)|refine aB ?_|refine aA ?_)
   refine cdW rfl tI (fun hc=>absurd hc dCd) (fun hc=>?_)
   repeat' (first|refine qP ?_ (h:=fun hg=>by first|exact aa|exact pc h2|exact af)|apply sqW|refine rgK fun U V=>?_|(refine aN V ?_;clear V U)|refine skW ?_)
   refine cdW rfl tI (fun hc=>?_) (fun hc=>absurd hc (by first|(simp;done)|(simp;omega)))
   repeat' (first|refine qP ?_ (h:=fun hg=>by first|exact aa|exact pbD ab rfl rfl nds|exact af)|apply sqW|refine rgK fun U V=>?_|(refine aN V ?_;clear V U)|refine aS ?_|refine rtW ?_)
   exact⟨.inr rfl,_,rfl,Ent.jl jU (Ent.bO _)⟩
 have e:gX f c=(jx f c,0):=by unfold gX;rw[if_neg hA,if_neg hB]
 rw[e];have hB':c∈f.cuts:=Classical.not_not.1 hB;have cK:0≤az (kZ c) f.cuts:=by
  have:=qi f.cuts c;rw[decide_eq_true hB'] at this;simpa using this
 obtain⟨i,hi,hil,hieq,LK⟩:=bY cK;rw[hi] at h2;have he:=oS hil hieq LK;have hne:f.cuts≠[]:=by intro h;rw[h] at hil;simp at hil
 have hop:aP (jx f c)=bK f (.sl 3 ((f.cuts.eraseIdx i).map aM) .no):=by
  unfold jx;rw[he];rfl
 have h4:=TCall.val (first:=[]) (aQ:=[]) (avs:=[.agg (aP f)]) (yr f hf oM hne (o0:=.var (aP f)) (o1:=.var (aM c)) (o2:=.var zF) (fun o ho=>by
  simp only[zAo,zCe,or_false] at ho;rcases ho with rfl|rfl|rfl
  · exact okF f
  · exact fun m=>rfl
  · exact fun m=>rfl))
 have hok:([.var (bK f (.sla 5 3 0 f.cuts.length 0)),.var (aM c),.var zF,.var (bK f (.sla 5 3 0 f.cuts.length 0)),.var (bK f (.sla 5 3 0 f.cuts.length 0))]:ae).all (aD 6)=true:=by
  have e5:aD 6 (.var (bK f (.sla 5 3 0 f.cuts.length 0)))=true:=by simp[aD,bK,aO,ba,ck]
  simp only[zB4,zBg,e5];rfl
 have h5:=TCall.val (first:=[]) (aQ:=[]) (avs:=[.sla 5 3 0 f.cuts.length 0,.int i,.int ((i:Int)+1)]) (Gz oM hil hok);have hdl:((f.cuts.eraseIdx i).map aM).length=f.cuts.length - 1:=by
  rw[lLm,zDv,if_pos hil]
 refine PCall.bN ab Tryz.func169 rfl rfl Tryz.ntmps169 rfl ?_
 repeat' (first|refine qP ?_ (h:=fun hg=>by first|exact aa|exact pc h1|exact af)|apply sqW|refine rgK fun U V=>?_|(refine aN V ?_;clear V U)|refine aB ?_|refine aA ?_)
 refine cdW rfl tI (fun hc=>absurd hc dCd) (fun hc=>?_)
 repeat' (first|refine qP ?_ (h:=fun hg=>by first|exact aa|exact pc h2|exact af)|apply sqW|refine rgK fun U V=>?_|(refine aN V ?_;clear V U)|refine skW ?_)
 refine cdW rfl tI (fun hc=>absurd hc (by first|(simp;done)|(simp;omega))) (fun hc=>?_)
 repeat' (first|refine qS ?_|apply sqW|refine rgK fun U V=>?_|refine aoE (scT (h4) rfl rfl rfl rfl rfl nd rfl rfl nds ?_)|refine skW ?_)
 rintro r s ⟨rfl,rfl⟩
 repeat' (first|refine qS ?_|apply sqW|refine rgK fun U V=>?_|(refine aN V ?_;clear V U)|refine aS ?_|refine aoE (scT (h5) rfl rfl rfl rfl rfl nd rfl rfl nds ?_))
 rintro r s ⟨rfl,rfl⟩;rcases hq:f.cuts.length - 1 with _|q
 · rw[hq] at hdl;have GH:f.cuts.eraseIdx i=[]:=by simpa using hdl
   repeat' (first|refine qS ?_|apply sqW|refine rgK fun U V=>?_|(refine aN V ?_;clear V U)|refine aS ?_)
   refine AWP.cY [(4,.ptr 2 0),(5,.int 0)] ⟨rfl,rfl,tI⟩ ?_;refine rtW ⟨.inr rfl,_,rfl,?_⟩;show Ent (.tup [.agg (bK f (.sl 3 [] .no)),.int 0]) (.tup [.agg (aP (jx f c)),.int 0]);rw[hop,GH];exact Ent.bO _
 · rw[hq] at hdl;have fc:j9 5 3 0 ((f.cuts.eraseIdx i).map aM) (.sla 5 3 0 (q+1) 0)=.sl 3 ((f.cuts.eraseIdx i).map aM) .no:=by
    unfold j9;dsimp only;rw[if_pos ⟨rfl,rfl,rfl,hdl.symm,rfl⟩]
   repeat' (first|refine qS ?_|apply sqW|refine rgK fun U V=>?_|(refine aN V ?_;clear V U)|refine aS ?_)
   refine AWP.rS (l:=5) (sz:=3) (ver:=0) (es:=(f.cuts.eraseIdx i).map aM) rfl (GD _) ?_;refine AWP.cY [(4,.ptr 2 0),(5,.int 0)] ⟨rfl,rfl,tI⟩ ?_;show AWP _ _ _ _ _ [_,_,.var (bK f (j9 5 3 0 ((f.cuts.eraseIdx i).map aM) (.sla 5 3 0 (q+1) 0))),_,_,_];rw[fc];refine rtW ⟨.inr rfl,_,rfl,?_⟩;show Ent (.tup [.agg (bK f (.sl 3 ((f.cuts.eraseIdx i).map aM) .no)),.int 0]) (.tup [.agg (aP (jx f c)),.int 0]);rw[hop];exact Ent.bO _
end Go.Proofs.YthiaimakjmhegaaGreatDoor.Pl
