/- Parts of the proof. No statement is proved here. -/
import Derived.Test.YtmjdoencpjpegaaGreatDoorP22
import Derived.Test.YtmjdoencpjpegaaGreatDoorP23
set_option linter.unusedVariables false
set_option linter.unusedSimpArgs false
set_option maxHeartbeats 16000000
set_option maxRecDepth 20000
namespace Go.Ab
def DF (l:List Nat) (o:Oper):Bool:=match o.dst with
 |some d=>l.contains d
 |none=>dJ o
end Go.Ab
namespace Go.Proofs.YtmjdoencpjpegaaGreatDoor.Pl
open Go.Ab Go.Pl
attribute [local irreducible] AWP AOps EStep AQ PStep PRun PCall TCall VCall
theorem xj (l:List cL):∀x∈l.map bk,x.all fb=true:=fun x hx=>by
 obtain⟨c,_,rfl⟩:=zAf.1 hx;rfl
theorem FI (l:List jT):∀x∈l.map cD,x.all fb=true:=fun x hx=>by
 obtain⟨c,_,rfl⟩:=zAf.1 hx;rfl
theorem gP (l:List cd):∀x∈l.map aW,x.all fb=true:=fun x hx=>by
 obtain⟨c,_,rfl⟩:=zAf.1 hx;rfl
theorem rK (l:List cL) (hl:l.length≤1000000000):PCall Tryz.prog 152 [.sl 3 (l.map bk) .no] (.sl 3 (l.map bk) .no):=by
 have hll:(l.map bk).length=l.length:=sMp;refine PCall.body Tryz.func152 rfl rfl Tryz.ntmps152 rfl rfl ?_
 repeat' (first|refine qS ?_|apply sqW|refine rgK fun U V=>?_|(refine aN V ?_;clear V U)|refine aoE (EStep.kC ab rfl rfl rfl rfl rfl tI rfl ?_))
 intro b hb
 repeat' (first|refine qP ?_ (h:=fun hg=>by first|exact PRun.fD ab rfl rfl|exact ae|exact ah)|apply sqW|refine rgK fun U V=>?_|(refine aN V ?_;clear V U)|refine aoE (EStep.fg ab rfl rfl rfl rfl (Rd.w rfl tI) (Rd.w rfl tI) (.sl rfl (xj _)) (lkG rfl) (lkG rfl) rfl rfl (by simp only[hll];omega) oM ?_)|refine cX ?_ ?_<;>intro hc<;>try simp only[dE] at hc|refine skW ?_)
 · have:l=[]:=by simpa using hb hc
   subst this;refine rtW ⟨.inr rfl,Ent.nil⟩
 · refine AWP.fP (d:=2) (l:=0) (sz:=3) (ver:=0) (es:=l.map bk) rfl rfl (mo fun e he=>by obtain⟨c,_,rfl⟩:=zAf.1 he;rfl) ?_;exact rtW ⟨.inr rfl,fun _ _ h=>h⟩
theorem mZ (l:List jT) (hl:l.length≤1000000000):PCall Tryz.prog 153 [.sl 3 (l.map cD) .no] (.sl 3 (l.map cD) .no):=by
 have hll:(l.map cD).length=l.length:=sMp;refine PCall.body Tryz.func153 rfl rfl Tryz.ntmps153 rfl rfl ?_
 repeat' (first|refine qS ?_|apply sqW|refine rgK fun U V=>?_|(refine aN V ?_;clear V U)|refine aoE (EStep.kC ab rfl rfl rfl rfl rfl tI rfl ?_))
 intro b hb
 repeat' (first|refine qP ?_ (h:=fun hg=>by first|exact PRun.fD ab rfl rfl|exact ae|exact ah)|apply sqW|refine rgK fun U V=>?_|(refine aN V ?_;clear V U)|refine aoE (EStep.fg ab rfl rfl rfl rfl (Rd.w rfl tI) (Rd.w rfl tI) (.sl rfl (FI _)) (lkG rfl) (lkG rfl) rfl rfl (by simp only[hll];omega) oM ?_)|refine cX ?_ ?_<;>intro hc<;>try simp only[dE] at hc|refine skW ?_)
 · have:l=[]:=by simpa using hb hc
   subst this;refine rtW ⟨.inr rfl,Ent.nil⟩
 · refine AWP.fP (d:=2) (l:=0) (sz:=3) (ver:=0) (es:=l.map cD) rfl rfl (mo fun e he=>by obtain⟨c,_,rfl⟩:=zAf.1 he;rfl) ?_;exact rtW ⟨.inr rfl,fun _ _ h=>h⟩
def OkA (o:aF):Prop:=∀m,ak m o=true
theorem mA {l:List aF} (h:∀o∈l,OkA o) (m:Nat):(l:aa).all (ak m)=true:=zA6.2 fun o ho=>h o ho m
theorem zP (l:List cd):OkA (.arr 3 0 (l.map aW)):=fun m=>by simp[ak,aW,aG]
theorem okF (f:aR):OkA (.var (bl f)):=fun m=>by simp[ak,bl,aG,bk,cD,aW]
theorem FJ {o0 o1 o2 o3 o4:aF} (ho:∀o∈[o0,o1,o2,o3,o4],OkA o):TCall Tryz.prog 154 [.sl 3 (([]:List cd).map aW) .no] [o0,o1,o2,o3,o4]
 (fun r s=>r=.sl 3 [] .fresh∧s=[o0,o1,o2,o3,o4]):=by
 have hok:([o0,o1,o2,o3,o4]:aa).all (ak 5)=true:=mA ho 5;refine TCall.body Tryz.func154 rfl rfl Tryz.ntmps154 rfl rfl ?_
 repeat' (first|refine qS ?_|apply sqW|refine rgK fun U V=>?_|(refine aN V ?_;clear V U)|refine aoE (EStep.kC ab rfl rfl rfl rfl rfl tI rfl ?_))
 intro b hb
 repeat' (first|refine qP ?_ (h:=fun hg=>by first|exact PRun.fD ab rfl rfl|exact ae|exact ah)|apply sqW|refine rgK fun U V=>?_|(refine aN V ?_;clear V U)|refine aoE (EStep.wa ab rfl rfl rfl dCd (Rd.w rfl tI) (Rd.w rfl tI) (.sl rfl (gP [])) (lkG rfl) (lkG rfl) rfl ?_)|refine cX ?_ ?_<;>intro hc<;>try simp only[dE] at hc|refine skW ?_)
 · refine AWP.tK 2 3 rfl ?_;exact rtW ⟨.inr rfl,.sl 3 [] .fresh,[o0,o1,o2,o3,o4],⟨rfl,rfl⟩,rfl,nLr _,hok,rfl,rfl⟩
 · exact rtW ⟨.inr rfl,.sl 3 [] .fresh,[o0,o1,o2,o3,o4],⟨rfl,rfl⟩,rfl,nLr _,hok,rfl,rfl⟩
theorem H0 {l:List cd} (hl:l.length≤1000000) (hne:l≠[]) {o0 o1 o2 o3 o4:aF} (ho:∀o∈[o0,o1,o2,o3,o4],OkA o):TCall Tryz.prog 154 [.sl 3 (l.map aW) .no] [o0,o1,o2,o3,o4]
 (fun r s=>r=.sla 5 3 0 l.length 0∧s=[o0,o1,o2,o3,o4,.arr 3 0 (l.map aW)]):=by
 have hll:(l.map aW).length=l.length:=sMp;have hok:([o0,o1,o2,o3,o4,.arr 3 0 (l.map aW)]:aa).all (ak 6)=true:=mA (fun o h=>by
  rcases zAy.1 (show o∈[o0,o1,o2,o3,o4]++[.arr 3 0 (l.map aW)] from h) with h|h
  · exact ho o h
  · rw[zA9.1 h];exact zP l) 6
 refine TCall.body Tryz.func154 rfl rfl Tryz.ntmps154 rfl rfl ?_
 repeat' (first|refine qS ?_|apply sqW|refine rgK fun U V=>?_|(refine aN V ?_;clear V U)|refine aoE (EStep.kC ab rfl rfl rfl rfl rfl tI rfl ?_))
 intro b hb
 repeat' (first|refine qP ?_ (h:=fun hg=>by first|exact PRun.fD ab rfl rfl|exact ae|exact ah)|apply sqW|refine rgK fun U V=>?_|(refine aN V ?_;clear V U)|refine aoE (EStep.fg ab rfl rfl rfl rfl (Rd.w rfl tI) (Rd.w rfl tI) (.sl rfl (gP _)) (lkG rfl) (lkG rfl) rfl rfl (by simp only[hll];omega) oM ?_)|refine cX ?_ ?_<;>intro hc<;>try simp only[dE] at hc|refine skW ?_|refine rtW ?_)
 · exact absurd (by simpa using hb hc) hne
 · exact⟨.inr rfl,.sla 5 3 0 (l.map aW).length 0,[o0,o1,o2,o3,o4,.arr 3 0 (l.map aW)],⟨by rw[hll],rfl⟩,rfl,by simp,hok,rfl,rfl⟩
abbrev zF:List AV:=[.int 0,.nils,.nils,.int 0,.int 0,.int 0,.nils]
abbrev bG (f:aR) (c:AV):List AV:=[.int f.bars,.sl 3 (f.aC.map bk) .no,.sl 3 (f.ends.map cD) .no,.int f.jump.at_,.int f.jump.to,.int f.jump.dc,c]
def clsC (o:Oper):Nat:=match o.dst with
 |some 11=>1
 |some _=>0
 |none=>2
def copS (o0 o1 o2:aF) (f:aR) (c:AV) (more:aa):Nat→Nat→aa
 |j1,j2=>[o0,o1,o2,.var (match j2 with|0=>bl f|1=>bl f|2=>bl f|_=>bG f c),.var zF]++(match j1 with|0=>[]|_=>more)
theorem vm (f:aR) (hf:FIn f) {o0 o1 o2:aF} (c:AV) (more:aa) (hpr:c=.sl 3 [] .fresh∨∃n,c=.sla 5 3 0 n 0) (hok:([o0,o1,o2,.var (bG f c),.var (bG f c)]++more:aa).all (ak ([o0,o1,o2,.var (bG f c),.var (bG f c)]++more:aa).length)=true)
 (w3:VCall Tryz.prog (.fn (.func 154) [] []) [.sl 3 (f.cuts.map aW) .no] [o0,o1,o2,.var (bl f),.var zF] (fun r s=>r=c∧s=[o0,o1,o2,.var (bl f),.var zF]++more)) (hr:aG ([o0,o1,o2,.var (bG f c),.var (bG f c)]++more:aa).length 4 (.agg (bG f c))=true) :
 TCall Tryz.prog 126 [.agg (bl f)] [o0,o1,o2] (fun r s=>r=.agg (bG f c)∧s=[o0,o1,o2,.var (bG f c),.var (bG f c)]++more):=by
 have w1:=rK f.aC hf.aC;have w2:=mZ f.ends hf.ends;refine TCall.rh ab Tryz.func126 rfl rfl Tryz.ntmps126 rfl ?_
 repeat' (first|apply sqW|refine rgK fun U V=>?_|(refine aN V ?_;clear V U)|refine aB ?_|refine aA ?_)
 refine AWP.xY clsC (copS o0 o1 o2 f c more) rfl (by kernel_rfl) dKn rfl dKn (fun U V=>?_)
 repeat' (first
  |refine WQ.q rfl dKn rfl rfl (fun k1 k2 h1 h2 hg=>by first|(first|exact ae|exact pc w1|exact pc w2|exact ah)|((have a1:k1=0∨k1=1∨k1=2:=oM);(rcases a1 with rfl|rfl|rfl)<;>(first|exact ae|exact pc w1|exact pc w2|exact ah))|((have a1:k1=0∨k1=1∨k1=2:=oM);(have a2:k2=0∨k2=1∨k2=2:=oM);(rcases a1 with rfl|rfl|rfl)<;>(rcases a2 with rfl|rfl|rfl)<;>(first|exact ae|exact pc w1|exact pc w2|exact ah))) (by exact rfl) ?_)
 refine WQ.e1 2 (v:=c) (d:=some 11) rfl dKn rfl ?_ ?_
 · intro au he k2 hk2;have hk:k2=0∨k2=1∨k2=2:=oM;rcases hk with rfl|rfl|rfl
   all_goals
    refine scT w3 rfl rfl rfl rfl rfl tI rfl (by simp only[rds,ai (he 10 dKn)];rfl) ⟨(by rw[aj (he 10 dKn)];first|exact tI|exact rfl),tI⟩ ?_;rintro r s ⟨rfl,rfl⟩;exact⟨rfl,rfl⟩
 repeat' (first
  |refine WQ.q rfl dKn rfl rfl (fun k1 k2 h1 h2 hg=>by first|(first|exact ae|exact ah)|((have a1:k1=0∨k1=1∨k1=2:=oM);(rcases a1 with rfl|rfl|rfl)<;>(first|exact ae|exact ah))|((have a1:k1=0∨k1=1∨k1=2:=oM);(have a2:k2=0∨k2=1∨k2=2:=oM);(rcases a1 with rfl|rfl|rfl)<;>(rcases a2 with rfl|rfl|rfl)<;>(first|exact ae|exact ah))) (by exact rfl) ?_)
 refine WQ.e2 0 1 (v:=.any) (d:=none) rfl dKn rfl ?_ ?_
 · intro au he k1 _ hk1;have hk:k1=0∨k1=1:=oM;rcases hk with rfl|rfl
   all_goals exact stW ab rfl rfl ((ai (he 12 dKn)).trans rfl) (by rw[aj (he 12 dKn)];first|exact tI|exact rfl) rfl ((ai (he 5 dKn)).trans rfl) (by rw[aj (he 5 dKn)];first|exact tI|exact rfl) rfl rfl rfl rfl rfl rfl rfl ⟨rfl,rfl⟩
 repeat' (first
  |refine WQ.q rfl dKn rfl rfl (fun k1 k2 h1 h2 hg=>by first|(first|exact ae|exact ah)|((have a1:k1=0∨k1=1∨k1=2:=oM);(rcases a1 with rfl|rfl|rfl)<;>(first|exact ae|exact ah))|((have a1:k1=0∨k1=1∨k1=2:=oM);(have a2:k2=0∨k2=1∨k2=2:=oM);(rcases a1 with rfl|rfl|rfl)<;>(rcases a2 with rfl|rfl|rfl)<;>(first|exact ae|exact ah))) (by exact rfl) ?_)
 refine WQ.e2 0 1 (v:=.any) (d:=none) rfl dKn rfl ?_ ?_
 · intro au he k1 _ hk1;have hk:k1=0∨k1=1:=oM;rcases hk with rfl|rfl
   all_goals exact stW ab rfl rfl ((ai (he 13 dKn)).trans rfl) (by rw[aj (he 13 dKn)];first|exact tI|exact rfl) rfl ((ai (he 8 dKn)).trans rfl) (by rw[aj (he 8 dKn)];first|exact tI|exact rfl) rfl rfl rfl rfl rfl rfl rfl ⟨rfl,rfl⟩
 repeat' (first
  |refine WQ.q rfl dKn rfl rfl (fun k1 k2 h1 h2 hg=>by first|(first|exact ae|exact ah)|((have a1:k1=0∨k1=1∨k1=2:=oM);(rcases a1 with rfl|rfl|rfl)<;>(first|exact ae|exact ah))|((have a1:k1=0∨k1=1∨k1=2:=oM);(have a2:k2=0∨k2=1∨k2=2:=oM);(rcases a1 with rfl|rfl|rfl)<;>(rcases a2 with rfl|rfl|rfl)<;>(first|exact ae|exact ah))) (by exact rfl) ?_)
 refine WQ.e2 1 1 (v:=.any) (d:=none) rfl dKn rfl ?_ ?_
 · intro au he k1 hk0 hk1;obtain rfl:k1=1:=oM;rcases hpr with rfl|⟨n,rfl⟩
   all_goals exact stW ab rfl rfl ((ai (he 14 dKn)).trans rfl) (by rw[aj (he 14 dKn)];first|exact tI|exact rfl) rfl ((ai (he 11 dKn)).trans rfl) (by rw[aj (he 11 dKn)];first|exact tI|exact rfl) rfl rfl rfl rfl rfl rfl rfl ⟨rfl,rfl⟩
 refine WQ.nil (V _ _ _ ?_);clear V U;show AWP _ _ _ _ _ ([o0,o1,o2,.var (bG f c),.var zF]++more);rcases hpr with rfl|⟨n,rfl⟩
 · repeat' (first|refine qS ?_|apply sqW|refine rgK fun U V=>?_|(refine aN V ?_;clear V U)|refine aS ?_|refine rtW ?_)
   exact⟨.inr rfl,_,[o0,o1,o2,.var (bG f (.sl 3 [] .fresh)),.var (bG f (.sl 3 [] .fresh))]++more,⟨rfl,rfl⟩,zB2,by simp,hok,hr,rfl⟩
 · repeat' (first|refine qS ?_|apply sqW|refine rgK fun U V=>?_|(refine aN V ?_;clear V U)|refine aS ?_|refine rtW ?_)
   exact⟨.inr rfl,_,[o0,o1,o2,.var (bG f (.sla 5 3 0 n 0)),.var (bG f (.sla 5 3 0 n 0))]++more,⟨rfl,rfl⟩,zB2,by simp,hok,hr,rfl⟩
theorem FK (f:aR) (hf:FIn f) (hc0:f.cuts=[]) {o0 o1 o2:aF} (ho:∀o∈[o0,o1,o2],OkA o):TCall Tryz.prog 126 [.agg (bl f)] [o0,o1,o2]
 (fun r s=>r=.agg (bG f (.sl 3 [] .fresh))∧s=[o0,o1,o2,.var (bG f (.sl 3 [] .fresh)),.var (bG f (.sl 3 [] .fresh))]):=by
 have ho5:∀o∈[o0,o1,o2,.var (bl f),.var zF],OkA o:=fun o h=>by
  rcases zAy.1 (show o∈[o0,o1,o2]++[.var (bl f),.var zF] from h) with h|h
  · exact ho o h
  · rcases zAw.1 h with h|h
    · rw[h];exact okF f
    · rw[zA9.1 h];exact fun m=>rfl
 have w3:=TCall.val (first:=[]) (aM:=[]) (avs:=[.sl 3 (f.cuts.map aW) .no]) (by rw[hc0];exact FJ ho5);have e5:∀m,ak m (.var (bG f (.sl 3 [] .fresh)))=true:=fun m=>by simp[ak,bG,aG,bk,cD]
 refine vm f hf (.sl 3 [] .fresh) [] (.inl rfl) ?_ w3 (by simp[aG,bG,bk,cD]);have e1:=ho o0 sMp 5;have e2:=ho o1 sMp 5;have e3:=ho o2 sMp 5;show([o0,o1,o2,.var (bG f (.sl 3 [] .fresh)),.var (bG f (.sl 3 [] .fresh))]:aa).all (ak 5)=true;simp only[zAq,zAu,e1,e2,e3,e5];rfl
theorem zQ (f:aR) (hf:FIn f) (hl:f.cuts.length≤1000000) (hne:f.cuts≠[]) {o0 o1 o2:aF} (ho:∀o∈[o0,o1,o2],OkA o):TCall Tryz.prog 126 [.agg (bl f)] [o0,o1,o2]
 (fun r s=>r=.agg (bG f (.sla 5 3 0 f.cuts.length 0))∧s=[o0,o1,o2,.var (bG f (.sla 5 3 0 f.cuts.length 0)),.var (bG f (.sla 5 3 0 f.cuts.length 0)),.arr 3 0 (f.cuts.map aW)]):=by
 have ho5:∀o∈[o0,o1,o2,.var (bl f),.var zF],OkA o:=fun o h=>by
  rcases zAy.1 (show o∈[o0,o1,o2]++[.var (bl f),.var zF] from h) with h|h
  · exact ho o h
  · rcases zAw.1 h with h|h
    · rw[h];exact okF f
    · rw[zA9.1 h];exact fun m=>rfl
 have w3:=TCall.val (first:=[]) (aM:=[]) (avs:=[.sl 3 (f.cuts.map aW) .no]) (H0 hl hne ho5);refine vm f hf (.sla 5 3 0 f.cuts.length 0) [.arr 3 0 (f.cuts.map aW)] (.inr ⟨_,rfl⟩) ?_ w3 (by simp[aG,bG,bk,cD]);have e1:=ho o0 sMp 6;have e2:=ho o1 sMp 6;have e3:=ho o2 sMp 6;have e4:=zP f.cuts 6;have e5:ak 6 (.var (bG f (.sla 5 3 0 f.cuts.length 0)))=true:=by simp[ak,bG,aG,bk,cD]
 show([o0,o1,o2,.var (bG f (.sla 5 3 0 f.cuts.length 0)),.var (bG f (.sla 5 3 0 f.cuts.length 0)),.arr 3 0 (f.cuts.map aW)]:aa).all (ak 6)=true;simp only[zAq,zAu,e1,e2,e3,e4,e5];rfl
def nh (l:List cd) (i j m:Nat):List (List AV):=(l.map aW).take i++(((l.map aW).drop j).take m++(l.map aW).drop (i+m))
theorem H2 {l:List cd} {i j m:Nat} (h1:i+m≤l.length) (h2:j+m≤l.length):(nh l i j m).length=l.length:=by
 unfold nh;simp only[lLa,zAg,zAx,lLm];omega
theorem FL {l:List cd} {i j m q:Nat} (hj:j=i+1) (hm:i+m=q) (hl:j+m=l.length):(nh l i j m).take q=(l.eraseIdx i).map aW:=by
 unfold nh;rw[List.eraseIdx_eq_take_drop_succ,zAz,List.map_take,List.map_drop,←hj,←zBo,zBt (by simp only[lLa,zAg,zAx,lLm];omega)];rw[zAn (by simp only[lLa,zAg,zAx,lLm];omega)];congr 1;rw[zAn (by simp only[zAx,lLm];omega)]
theorem H3 {l:List cd} (hl:l.length≤1000000) {i:Nat} (hi:i<l.length) {o0 o1 o2 o3 o4:aF} (hok:([o0,o1,o2,o3,o4]:aa).all (ak 6)=true) :
 TCall Tryz.prog 128 [.sla 5 3 0 l.length 0,.int i,.int ((i:Int)+1)] [o0,o1,o2,o3,o4,.arr 3 0 (l.map aW)]
 (fun r s=>r=At 5 3 (l.length - 1)∧s=[o0,o1,o2,o3,o4,.arr 3 0 ((l.eraseIdx i).map aW)]):=by
 have tQ:([o0,o1,o2,o3,o4,.arr 3 0 ((l.eraseIdx i).map aW)]:aa).all (ak 6)=true:=by
  have e4:=zP (l.eraseIdx i) 6;rw[show([o0,o1,o2,o3,o4,.arr 3 0 ((l.eraseIdx i).map aW)]:aa)=[o0,o1,o2,o3,o4]++[.arr 3 0 ((l.eraseIdx i).map aW)] from rfl,zBs,hok,zBw];simp only[zAq,zAu,e4];rfl
 have hll:(l.map aW).length=l.length:=sMp;have ej:0+((i:Int)+1).toNat=i+1:=oM;have em:l.length - ((i:Int)+1).toNat=l.length - (i+1):=oM;obtain⟨J,hJ⟩:∃J,0+((i:Int)+1).toNat=J:=⟨_,rfl⟩
 obtain⟨M,hM⟩:∃M,l.length - ((i:Int)+1).toNat=M:=⟨_,rfl⟩
 have hdl:(nh l i J M).length=l.length:=H2 oM oM;have hdt:=FL (l:=l) (i:=i) (j:=J) (m:=M) (q:=l.length - 1) oM oM oM;have hlo:∀{o:Oper} {env:Env} {x y:Operand} {t:TypeId},o.op=.slice t x (some y) none none→rdv env x=some (.sla 5 3 0 l.length 0)→rdn env x→rdv env y=some (.int ((i:Int)+1))→rdn env y→eE tab t=some 3→PRun Tryz.prog o env [o0,o1,o2,o3,o4,.arr 3 0 (l.map aW)] (.sla 5 3 J M 0):=fun a1 a2 a3 a4 a5 a6=>by
  have:=PRun.tw (σ:=[o0,o1,o2,o3,o4,.arr 3 0 (l.map aW)]) ab a1 a2 a3 a4 a5 a6 rfl ⟨oM,oM⟩;rw[hJ,hM] at this;exact this
 rcases i with _|i
 · rcases hn:l.length with _|_|k
   · omega
   · rw[hn] at hl hll hdl hdt hlo hi hM em;refine TCall.body Tryz.func128 rfl rfl Tryz.ntmps128 rfl rfl ?_
     repeat' (first|refine qP ?_ (h:=fun hg=>by first|exact ae|exact PRun.mF ab rfl rfl nd rfl nd rfl nd rfl nd rfl rfl oM ⟨oM,oM,oM⟩ oM|exact PRun.k8 ab rfl rfl nd rfl|exact ah)|apply sqW|refine rgK fun U V=>?_|(refine aN V ?_;clear V U)|refine cX ?_ ?_<;>intro hc<;>try simp only[dE] at hc|refine skW ?_|refine rtW ?_)
     all_goals (first|(exfalso;simp at hc;done)|(exfalso;omega)|skip)
     refine AWP.mj (fun j=>match j with|0=>[o0,o1,o2,o3,o4,.arr 3 0 (l.map aW)]|_=>[o0,o1,o2,o3,o4,.arr 3 0 (nh l 0 J M)]) rfl (by kernel_rfl) dKn rfl dKn (fun U V=>?_)
     repeat' (first
      |refine yt (h:=by refine⟨?_,?_,?_,?_⟩<;>intro hh hg<;>first|exact absurd hh dKn|exact hlo rfl rfl nd rfl nd rfl|exact PRun.p5 ab rfl rfl nd rfl nd rfl rfl oM|exact ae|exact ah|fail) (hk:=?_)|fail)
     refine YQ.e (v:=.sl 3 [] (.own 5)) (d:=some 26) rfl rfl rfl ?_ ?_
     · intro au he;exact EStep.lz (l:=5) ab 0 J M rfl rfl rfl dCd (Rd.w ((ai (he 22 dKn)).trans rfl) (by rw[aj (he 22 dKn)];first|exact tI|exact rfl)) rfl (show _=At 5 3 (0+M) by rw[show 0+M=0 by omega];rfl) rfl (Rd.w ((ai (he 25 dKn)).trans rfl) (by rw[aj (he 25 dKn)];first|exact tI|exact rfl)) (gP l) (lkG rfl) (lkG rfl) (lkG rfl) rfl oM oM oM rfl ⟨rfl,rfl⟩
     repeat' (first
      |refine yt (hk:=?_)|fail)
     refine YQ.nil (V _ _ ?_);clear V U
     repeat' (first|refine qP ?_ (h:=fun hg=>by first|exact ae|exact PRun.lv ab 0 1 rfl rfl nd rfl rfl nd rfl nd rfl rfl ⟨oM,oM⟩|exact ah)|apply sqW|refine rgK fun U V=>?_|(refine aN V ?_;clear V U)|refine aoE (EStep.oT ab rfl rfl rfl tI rfl (lkG rfl) (lkG rfl) rfl rfl rfl ?_)|refine rtW ?_)
     refine⟨.inr rfl,At 5 3 0,[o0,o1,o2,o3,o4,.arr 3 0 ((l.eraseIdx 0).map aW)],⟨rfl,rfl⟩,?_,by simp,tQ,rfl,rfl⟩;show[o0,o1,o2,o3,o4,.arr 3 0 ((nh l 0 J M).take 0)]=_;rw[hdt]
   · rw[hn] at hl hll hdl hdt hlo hi hM em;refine TCall.body Tryz.func128 rfl rfl Tryz.ntmps128 rfl rfl ?_
     repeat' (first|refine qP ?_ (h:=fun hg=>by first|exact ae|exact PRun.mF ab rfl rfl nd rfl nd rfl nd rfl nd rfl rfl oM ⟨oM,oM,oM⟩ oM|exact PRun.k8 ab rfl rfl nd rfl|exact ah)|apply sqW|refine rgK fun U V=>?_|(refine aN V ?_;clear V U)|refine cX ?_ ?_<;>intro hc<;>try simp only[dE] at hc|refine skW ?_|refine rtW ?_)
     all_goals (first|(exfalso;simp at hc;done)|(exfalso;omega)|skip)
     refine AWP.mj (fun j=>match j with|0=>[o0,o1,o2,o3,o4,.arr 3 0 (l.map aW)]|_=>[o0,o1,o2,o3,o4,.arr 3 0 (nh l 0 J M)]) rfl (by kernel_rfl) dKn rfl dKn (fun U V=>?_)
     repeat' (first
      |refine yt (h:=by refine⟨?_,?_,?_,?_⟩<;>intro hh hg<;>first|exact absurd hh dKn|exact hlo rfl rfl nd rfl nd rfl|exact PRun.p5 ab rfl rfl nd rfl nd rfl rfl oM|exact ae|exact ah|fail) (hk:=?_)|fail)
     refine YQ.e (v:=.sla 5 3 0 (k+1) 0) (d:=some 26) rfl rfl rfl ?_ ?_
     · intro au he;exact EStep.lz (l:=5) ab 0 J M rfl rfl rfl dCd (Rd.w ((ai (he 22 dKn)).trans rfl) (by rw[aj (he 22 dKn)];first|exact tI|exact rfl)) rfl (show _=At 5 3 (0+M) by rw[show 0+M=k+1 by omega];rfl) rfl (Rd.w ((ai (he 25 dKn)).trans rfl) (by rw[aj (he 25 dKn)];first|exact tI|exact rfl)) (gP l) (lkG rfl) (lkG rfl) (lkG rfl) rfl oM oM oM rfl ⟨rfl,rfl⟩
     repeat' (first
      |refine yt (hk:=?_)|fail)
     refine YQ.nil (V _ _ ?_);clear V U
     repeat' (first|refine qP ?_ (h:=fun hg=>by first|exact ae|exact PRun.k8 ab rfl rfl nd rfl|exact PRun.lv ab (k+1) (k+1+1) rfl rfl nd rfl rfl nd rfl nd rfl rfl ⟨oM,oM⟩|exact ah)|apply sqW|refine rgK fun U V=>?_|(refine aN V ?_;clear V U)|refine aoE (EStep.oT ab rfl rfl rfl tI rfl (lkG rfl) (lkG rfl) rfl rfl rfl ?_)|refine rtW ?_)
     refine⟨.inr rfl,At 5 3 (k+1),[o0,o1,o2,o3,o4,.arr 3 0 ((l.eraseIdx 0).map aW)],⟨rfl,rfl⟩,?_,by simp,tQ,rfl,rfl⟩;show[o0,o1,o2,o3,o4,.arr 3 0 ((nh l 0 J M).take (k+1))]=_;rw[show k+1=k+1+1 - 1 from rfl,hdt]
 · rcases hn:l.length with _|_|k
   · omega
   · omega
   · rw[hn] at hl hll hdl hdt hlo hi hM em;refine TCall.body Tryz.func128 rfl rfl Tryz.ntmps128 rfl rfl ?_
     repeat' (first|refine qP ?_ (h:=fun hg=>by first|exact ae|exact PRun.mF ab rfl rfl nd rfl nd rfl nd rfl nd rfl rfl oM ⟨oM,oM,oM⟩ oM|exact PRun.k8 ab rfl rfl nd rfl|exact ah)|apply sqW|refine rgK fun U V=>?_|(refine aN V ?_;clear V U)|refine cX ?_ ?_<;>intro hc<;>try simp only[dE] at hc|refine skW ?_|refine rtW ?_)
     all_goals (first|(exfalso;simp at hc;done)|(exfalso;simp at hc;omega)|(exfalso;omega)|skip)
     refine AWP.mj (fun j=>match j with|0=>[o0,o1,o2,o3,o4,.arr 3 0 (l.map aW)]|_=>[o0,o1,o2,o3,o4,.arr 3 0 (nh l (i+1) J M)]) rfl (by kernel_rfl) dKn rfl dKn (fun U V=>?_)
     repeat' (first
      |refine yt (h:=by refine⟨?_,?_,?_,?_⟩<;>intro hh hg<;>first|exact absurd hh dKn|exact hlo rfl rfl nd rfl nd rfl|exact PRun.yZ ab rfl rfl nd rfl nd rfl rfl ⟨oM,oM⟩|exact ae|exact ah|fail) (hk:=?_)|fail)
     refine YQ.e (v:=.sla 5 3 0 (k+1) 0) (d:=some 26) rfl rfl rfl ?_ ?_
     · intro au he;exact EStep.lz (l:=5) ab (i+1) J M rfl rfl rfl dCd (Rd.w ((ai (he 22 dKn)).trans rfl) (by rw[aj (he 22 dKn)];first|exact tI|exact rfl)) rfl (show _=At 5 3 (i+1+M) by rw[show i+1+M=k+1 by omega];rfl) rfl (Rd.w ((ai (he 25 dKn)).trans rfl) (by rw[aj (he 25 dKn)];first|exact tI|exact rfl)) (gP l) (lkG rfl) (lkG rfl) (lkG rfl) rfl oM oM oM rfl ⟨rfl,rfl⟩
     repeat' (first
      |refine yt (hk:=?_)|fail)
     refine YQ.nil (V _ _ ?_);clear V U
     repeat' (first|refine qP ?_ (h:=fun hg=>by first|exact ae|exact PRun.k8 ab rfl rfl nd rfl|exact PRun.lv ab (k+1) (k+1+1) rfl rfl nd rfl rfl nd rfl nd rfl rfl ⟨oM,oM⟩|exact ah)|apply sqW|refine rgK fun U V=>?_|(refine aN V ?_;clear V U)|refine aoE (EStep.oT ab rfl rfl rfl tI rfl (lkG rfl) (lkG rfl) rfl rfl rfl ?_)|refine rtW ?_)
     refine⟨.inr rfl,At 5 3 (k+1),[o0,o1,o2,o3,o4,.arr 3 0 ((l.eraseIdx (i+1)).map aW)],⟨rfl,rfl⟩,?_,by simp,tQ,rfl,rfl⟩;show[o0,o1,o2,o3,o4,.arr 3 0 ((nh l (i+1) J M).take (k+1))]=_;rw[show k+1=k+1+1 - 1 from rfl,hdt]
theorem flCt:oJ Tryz.prog 158=some [.int .i64,.int .i64,.int .i64]:=by kernel_rfl
def l9 (c x:cd):Bool:=c.from_==x.from_&&(c.aI==x.aI&&(c.pass==x.pass&&true))
theorem qd (c x:cd):l9 c x=true↔x=c:=by
 obtain⟨a,b,p⟩:=c;obtain⟨a2,b2,p2⟩:=x;unfold l9;simp only[zC2,zA0,beq_iff_eq,cd.mk.injEq];exact⟨fun h=>⟨h.1.symm,h.2.1.symm,h.2.2.symm⟩,fun h=>⟨h.1.symm,h.2.1.symm,h.2.2.symm⟩⟩
theorem rL (l:List cd) (c:cd) (hl:l.length≤1000000000):PCall Tryz.prog 127 [.sl 3 (l.map aW) .no,.agg (aW c)] (.int (aX (l9 c) l)):=by
 refine PCall.body Tryz.func127 rfl rfl Tryz.ntmps127 rfl rfl ?_
 repeat' (first|refine qT ?_|apply sqW|refine rgK fun U V=>?_|(refine aN V ?_;clear V U)|refine aB ?_|refine blK ?_)
 refine lpW (ι:=Nat) (fun k=>[(0,.sl 3 (l.map aW) .no),(3,.ptr 0 0),(6,.sl 3 (l.map aW) .no),(7,.int l.length),(8,.int k)]) (fun _=>[.var (aW c)]) (fun k=>k≤l.length∧∀j,j<k→l9 c (l.getD j default)=false) (fun k=>l.length - k) 0 ⟨nZl _,fun j h=>absurd h oM⟩ ⟨rfl,rfl,rfl,rfl,rfl,tI⟩ rfl ?_;rintro k ⟨hk,aT⟩;by_cases hlt:k<l.length
 · repeat' (first|refine qS ?_|apply sqW|refine rgK fun U V=>?_|(refine aN V ?_;clear V U)|refine cX ?_ ?_<;>intro hc<;>try simp only[dE] at hc|refine blK ?_|refine exW ?_|refine skW ?_|refine rtW ?_|refine kD fun U V=>?_|(refine aqN (V _ ?_);clear V U)|refine aqQ rfl rfl (fun hg=>by first|exact ae|exact PRun.eqS flCt rfl rfl nd rfl nd rfl|exact ah) (by exact rfl) ?_)
   all_goals first|(exfalso;omega)|skip
   · refine⟨.inr rfl,?_⟩;rw[show aX (l9 c) l=k from eP hlt hc aT];exact fun _ _ h=>h
   · exact⟨k+1,⟨oM,fun j hj=>bA aT hc hj⟩,oM,⟨rfl,rfl,rfl,rfl,rfl,tI⟩,rfl⟩
 · repeat' (first|refine qS ?_|apply sqW|refine rgK fun U V=>?_|(refine aN V ?_;clear V U)|refine cX ?_ ?_<;>intro hc<;>try simp only[dE] at hc|refine blK ?_|refine exW ?_|refine skW ?_|refine rtW ?_|refine kD fun U V=>?_|refine aqQ rfl rfl (fun hg=>by first|exact ae|exact ah) (by exact rfl) ?_)
   all_goals first|(exfalso;omega)|skip
   refine⟨.inr rfl,?_⟩;rw[show aX (l9 c) l = -1 from gq fun j hj=>aT j oM];exact fun _ _ h=>h
theorem rM (l:List cd) (c:cd):decide (aX (l9 c) l≥0)=decide (c∈l):=by
 rw[pO,zB3,zDh,dEt];constructor
 · rintro⟨x,hx,h⟩;rw[←(qd c x).1 h];exact hx
 · intro h;exact⟨c,h,(qd c c).2 rfl⟩
theorem vn (l:List cd) (c:cd) (hl:l.length≤1000000000):PCall Tryz.prog 125 [.sl 3 (l.map aW) .no,.agg (aW c)] (.b (decide (c∈l))):=by
 rw[←rM];refine PCall.body Tryz.func125 rfl rfl Tryz.ntmps125 rfl rfl ?_
 repeat' (first|refine qP ?_ (h:=fun hg=>by first|exact ae|exact pc (rL l c hl)|exact ah)|apply sqW|refine rgK fun U V=>?_|(refine aN V ?_;clear V U)|refine aB ?_|refine rtW ?_)
 exact⟨.inr rfl,Ent.b rfl⟩
theorem qe {l:List cd} {c:cd} {k:Nat} (hk:k<l.length) (h:l9 c (l.getD k default)=true) (aT:∀j,j<k→l9 c (l.getD j default)=false):l.erase c=l.eraseIdx k:=by
 induction l generalizing k with
 |nil=>simp at hk
 | cons x l ih =>
   cases k with
   | zero =>
     have:x=c:=(qd c x).1 h;rw[this,List.erase_cons_head];rfl
   | succ k =>
     have h0:=aT 0 oM;have hne:x≠c:=fun e=>by
      have:l9 c x=true:=(qd c x).2 e;exact absurd (h0.symm.trans this) dCd
     rw[List.erase_cons_tail (by simpa using hne),List.eraseIdx_cons_succ,ih (by simpa using hk) h fun j hj=>aT (j+1) oM]
def noF:aR:=⟨0,[],[],⟨0,0,0⟩,[]⟩
theorem kO:Ent (.agg zF) (.agg (bl noF)):=Ent.agg rfl fun i u v hu hv=>by
 match i,hu,hv with
 |0,hu,hv=>cases hu;cases hv;exact Ent.cB _
 |1,hu,hv=>cases hu;cases hv;exact Ent.nil
 |2,hu,hv=>cases hu;cases hv;exact Ent.nil
 |3,hu,hv=>cases hu;cases hv;exact Ent.cB _
 |4,hu,hv=>cases hu;cases hv;exact Ent.cB _
 |5,hu,hv=>cases hu;cases hv;exact Ent.cB _
 |6,hu,hv=>cases hu;cases hv;exact Ent.nil
 |i+7,hu,hv=>cases hu
def jn (f:aR) (c:cd):aR×Int:=if (!bB f||!iB f.bars c)=true then (noF,1) else if c∈f.cuts then (noF,5) else if f.cuts.length=100 then (noF,2) else (mD f c,0)
def H4 (r:aR×Int):AV:=.tup [.agg (bl r.1),.int r.2]
theorem tS {f:aR} (h:bB f=true):f.cuts.length≤100:=by
 unfold bB at h;simp only[zA0,dEt] at h;exact h.1.2.2
theorem H5 (l:List cd):∀e∈l.map aW,∀a∈e,∀M B x,af M B a x→af M [] a x:=mo fun e he=>by obtain⟨c,_,rfl⟩:=zAf.1 he;rfl
theorem H6 (f:aR) (hf:FIn f) (c:cd):PCall Tryz.prog 71 [.agg (bl f),.agg (aW c)] (H4 (jn f c)):=by
 have h1:=mz f hf;have h2:=uK f c;have h3:=vn f.cuts c hf.cuts;by_cases hA:(!bB f||!iB f.bars c)=true
 · have e:jn f c=(noF,1):=if_pos hA;rw[e];generalize bB f=x at *;generalize iB f.bars c=y at *;refine PCall.bO ab Tryz.func71 rfl rfl Tryz.ntmps71 rfl ?_
   repeat' (first|refine qP ?_ (h:=fun hg=>by first|exact ae|exact pc h1|exact pc h2|exact pbD ab rfl rfl nds|exact ah)|apply sqW|refine rgK fun U V=>?_|(refine aN V ?_;clear V U)|refine aB ?_|refine aA ?_|refine blK ?_)
   refine cdW rfl tI (fun hc=>?_) (fun hc=>absurd (hA.symm.trans hc) dCd)
   repeat' (first|refine qP ?_ (h:=fun hg=>by first|exact ae|exact pbD ab rfl rfl nds|exact ah)|apply sqW|refine rgK fun U V=>?_|(refine aN V ?_;clear V U)|refine aS ?_|refine rtW ?_)
   exact⟨.inr rfl,_,rfl,Ent.fL kO (Ent.cB _)⟩
 have hA2:(!bB f||!iB f.bars c)=false:=by simpa using hA
 have nX:bB f=true:=by
  rw[zAl] at hA2;simpa using hA2.1
 have hlen:=tS nX;by_cases hB:c∈f.cuts
 · have e:jn f c=(noF,5):=by unfold jn;rw[if_neg hA,if_pos hB]
   rw[e];rw[decide_eq_true hB] at h3;generalize bB f=x at *;generalize iB f.bars c=y at *;refine PCall.bO ab Tryz.func71 rfl rfl Tryz.ntmps71 rfl ?_
   repeat' (first|refine qP ?_ (h:=fun hg=>by first|exact ae|exact pc h1|exact pc h2|exact pbD ab rfl rfl nds|exact ah)|apply sqW|refine rgK fun U V=>?_|(refine aN V ?_;clear V U)|refine aB ?_|refine aA ?_|refine blK ?_)
   refine cdW rfl tI (fun hc=>absurd (hA2.symm.trans hc) dCd) (fun hc=>?_)
   repeat' (first|refine qP ?_ (h:=fun hg=>by first|exact ae|exact pc h3|exact ah)|apply sqW|refine rgK fun U V=>?_|(refine aN V ?_;clear V U))
   refine cdW rfl tI (fun hc=>?_) (fun hc=>absurd hc dCd)
   repeat' (first|refine qP ?_ (h:=fun hg=>by first|exact ae|exact pbD ab rfl rfl nds|exact ah)|apply sqW|refine rgK fun U V=>?_|(refine aN V ?_;clear V U)|refine aS ?_|refine rtW ?_)
   exact⟨.inr rfl,_,rfl,Ent.fL kO (Ent.cB _)⟩
 rw[decide_eq_false hB] at h3;by_cases hC:f.cuts.length=100
 · have e:jn f c=(noF,2):=by unfold jn;rw[if_neg hA,if_neg hB,if_pos hC]
   rw[e];generalize bB f=x at *;generalize iB f.bars c=y at *;refine PCall.bO ab Tryz.func71 rfl rfl Tryz.ntmps71 rfl ?_
   repeat' (first|refine qP ?_ (h:=fun hg=>by first|exact ae|exact pc h1|exact pc h2|exact pbD ab rfl rfl nds|exact ah)|apply sqW|refine rgK fun U V=>?_|(refine aN V ?_;clear V U)|refine aB ?_|refine aA ?_|refine blK ?_)
   refine cdW rfl tI (fun hc=>absurd (hA2.symm.trans hc) dCd) (fun hc=>?_)
   repeat' (first|refine qP ?_ (h:=fun hg=>by first|exact ae|exact pc h3|exact ah)|apply sqW|refine rgK fun U V=>?_|(refine aN V ?_;clear V U))
   refine cdW rfl tI (fun hc=>absurd hc dCd) (fun hc=>?_)
   repeat' (first|refine qT ?_|apply sqW|refine rgK fun U V=>?_|(refine aN V ?_;clear V U))
   refine cdW rfl tI (fun hc=>?_) (fun hc=>absurd hc (by first|(simp;done)|(simp;omega)))
   repeat' (first|refine qP ?_ (h:=fun hg=>by first|exact ae|exact pbD ab rfl rfl nds|exact ah)|apply sqW|refine rgK fun U V=>?_|(refine aN V ?_;clear V U)|refine aS ?_|refine rtW ?_)
   exact⟨.inr rfl,_,rfl,Ent.fL kO (Ent.cB _)⟩
 have e:jn f c=(mD f c,0):=by unfold jn;rw[if_neg hA,if_neg hB,if_neg hC]
 rw[e];by_cases hne:f.cuts=[]
 · have h4:=TCall.val (first:=[]) (aM:=[]) (avs:=[.agg (bl f)]) (FK f hf hne (o0:=.var (bl f)) (o1:=.var (aW c)) (o2:=.var zF) (fun o ho=>by
    simp only[zAw,zCm,or_false] at ho;rcases ho with rfl|rfl|rfl
    · exact okF f
    · exact fun m=>rfl
    · exact fun m=>rfl))
   have e2:mD f c=⟨f.bars,f.aC,f.ends,f.jump,[c]⟩:=by unfold mD;rw[hne];rfl
   rw[e2];generalize bB f=x at *;generalize iB f.bars c=y at *;refine PCall.bO ab Tryz.func71 rfl rfl Tryz.ntmps71 rfl ?_
   repeat' (first|refine qP ?_ (h:=fun hg=>by first|exact ae|exact pc h1|exact pc h2|exact pbD ab rfl rfl nds|exact ah)|apply sqW|refine rgK fun U V=>?_|(refine aN V ?_;clear V U)|refine aB ?_|refine aA ?_|refine blK ?_)
   refine cdW rfl tI (fun hc=>absurd (hA2.symm.trans hc) dCd) (fun hc=>?_)
   repeat' (first|refine qP ?_ (h:=fun hg=>by first|exact ae|exact pc h3|exact ah)|apply sqW|refine rgK fun U V=>?_|(refine aN V ?_;clear V U))
   refine cdW rfl tI (fun hc=>absurd hc dCd) (fun hc=>?_)
   repeat' (first|refine qT ?_|apply sqW|refine rgK fun U V=>?_|(refine aN V ?_;clear V U))
   refine cdW rfl tI (fun hc=>absurd hc (by first|(simp;done)|(simp;omega))) (fun hc=>?_)
   repeat' (first|refine qS ?_|apply sqW|refine rgK fun U V=>?_|refine aoE (scT (h4) rfl rfl rfl rfl rfl nd rfl rfl nds ?_)|refine skW ?_)
   rintro r s ⟨rfl,rfl⟩
   repeat' (first|refine aS ?_|(refine aN V ?_;clear V U))
   refine AWP.oS 3 ?_;show AWP _ _ _ _ _ [.var (bG f (.sl 3 [] .fresh)),.var (aW c),.var zF,.var (bG f (.sl 3 [] .fresh)),.var (bG f (.sl 3 [] .fresh)),.own 3 0]
   repeat' (first|refine qP ?_ (h:=fun hg=>by first|exact ae|exact pbS ab rfl rfl nds|exact ah)|apply sqW|refine rgK fun U V=>?_|(refine aN V ?_;clear V U)|refine aS ?_|refine aoE (EStep.KC (l:=5) (es:=[]) (m:=1) (es3:=[c].map aW) ab rfl rfl rfl dCd (.inr ⟨rfl,rfl⟩) (Rd.w rfl tI) rfl (Rd.w rfl tI) (.sl rfl (gP [c])) (zAa _) (lkG rfl) (lkG rfl) rfl rfl (by show(0+1) * 24≤140737488355328;omega) (by show 0+1≤9223372036854775807;omega) rfl rfl ?_)|refine rtW ?_)
   exact⟨.inr rfl,_,rfl,Ent.of rfl⟩
 · have h4:=TCall.val (first:=[]) (aM:=[]) (avs:=[.agg (bl f)]) (zQ f hf oM hne (o0:=.var (bl f)) (o1:=.var (aW c)) (o2:=.var zF) (fun o ho=>by
    simp only[zAw,zCm,or_false] at ho;rcases ho with rfl|rfl|rfl
    · exact okF f
    · exact fun m=>rfl
    · exact fun m=>rfl))
   have hll:(f.cuts.map aW).length=f.cuts.length:=sMp;have dY:jk 5 3 1 ((f.cuts++[c]).map aW) (.sla 5 3 0 (f.cuts.length+1) 1)=.sl 3 ((f.cuts++[c]).map aW) .no:=by
    unfold jk;dsimp only;rw[if_pos ⟨rfl,rfl,rfl,by simp,rfl⟩]
   generalize bB f=x at *;generalize iB f.bars c=y at *;refine PCall.bO ab Tryz.func71 rfl rfl Tryz.ntmps71 rfl ?_
   repeat' (first|refine qP ?_ (h:=fun hg=>by first|exact ae|exact pc h1|exact pc h2|exact pbD ab rfl rfl nds|exact ah)|apply sqW|refine rgK fun U V=>?_|(refine aN V ?_;clear V U)|refine aB ?_|refine aA ?_|refine blK ?_)
   refine cdW rfl tI (fun hc=>absurd (hA2.symm.trans hc) dCd) (fun hc=>?_)
   repeat' (first|refine qP ?_ (h:=fun hg=>by first|exact ae|exact pc h3|exact ah)|apply sqW|refine rgK fun U V=>?_|(refine aN V ?_;clear V U))
   refine cdW rfl tI (fun hc=>absurd hc dCd) (fun hc=>?_)
   repeat' (first|refine qT ?_|apply sqW|refine rgK fun U V=>?_|(refine aN V ?_;clear V U))
   refine cdW rfl tI (fun hc=>absurd hc (by first|(simp;done)|(simp;omega))) (fun hc=>?_)
   repeat' (first|refine qS ?_|apply sqW|refine rgK fun U V=>?_|refine aoE (scT (h4) rfl rfl rfl rfl rfl nd rfl rfl nds ?_)|refine skW ?_)
   rintro r s ⟨rfl,rfl⟩
   repeat' (first|refine qP ?_ (h:=fun hg=>by first|exact ae|exact pbS ab rfl rfl nds|exact ah)|apply sqW|refine rgK fun U V=>?_|(refine aN V ?_;clear V U)|refine aS ?_|refine aoE (EStep.gW (l:=5) (sz:=3) (m:=f.cuts.length+1) (es:=f.cuts.map aW) (es3:=(f.cuts++[c]).map aW) ab rfl rfl rfl dCd (Rd.w rfl tI) (.inl ⟨by rw[hll],by simpa using hne⟩) rfl (Rd.w rfl tI) (.sl rfl (gP [c])) (zAa _) (lkG rfl) (lkG rfl) rfl rfl (by rw[hll];show(f.cuts.length+1) * 24≤140737488355328;omega) (by rw[hll];show f.cuts.length+1≤9223372036854775807;omega) (by rw[hll];rfl) (by rw[zAz];rfl) ?_))
   refine AWP.pH (l:=5) (sz:=3) (ver:=1) (es:=(f.cuts++[c]).map aW) rfl (H5 _) ?_;refine AWP.dX [(4,.ptr 2 0),(5,.int 0)] ⟨rfl,rfl,tI⟩ ?_;show AWP _ _ _ _ _ [_,_,.var (bG f (jk 5 3 1 ((f.cuts++[c]).map aW) (.sla 5 3 0 (f.cuts.length+1) 1))),_,_,_];rw[dY];exact rtW ⟨.inr rfl,_,rfl,Ent.of rfl⟩
def iF (f:aR) (c:cd):aR×Int:=if bB f=false then (noF,1) else if c∉f.cuts then (noF,4) else (j8 f c,0)
theorem FM (f:aR) (hf:FIn f) (c:cd):PCall Tryz.prog 73 [.agg (bl f),.agg (aW c)] (H4 (iF f c)):=by
 have h1:=mz f hf;have h2:=rL f.cuts c hf.cuts;by_cases hA:bB f=false
 · have e:iF f c=(noF,1):=if_pos hA;rw[e];rw[hA] at h1;refine PCall.bO ab Tryz.func73 rfl rfl Tryz.ntmps73 rfl ?_
   repeat' (first|refine qP ?_ (h:=fun hg=>by first|exact ae|exact pc h1|exact ah)|apply sqW|refine rgK fun U V=>?_|(refine aN V ?_;clear V U)|refine aB ?_|refine aA ?_)
   refine cdW rfl tI (fun hc=>?_) (fun hc=>absurd hc dCd)
   repeat' (first|refine qP ?_ (h:=fun hg=>by first|exact ae|exact pbD ab rfl rfl nds|exact ah)|apply sqW|refine rgK fun U V=>?_|(refine aN V ?_;clear V U)|refine aS ?_|refine rtW ?_)
   exact⟨.inr rfl,_,rfl,Ent.fL kO (Ent.cB _)⟩
 have nX:bB f=true:=by simpa using hA
 rw[nX] at h1;have hlen:=tS nX;by_cases hB:c∉f.cuts
 · have e:iF f c=(noF,4):=by unfold iF;rw[if_neg hA,if_pos hB]
   rw[e];have oy:aX (l9 c) f.cuts<0:=by
    have:=rM f.cuts c;rw[decide_eq_false hB] at this;simpa using this
   refine PCall.bO ab Tryz.func73 rfl rfl Tryz.ntmps73 rfl ?_
   repeat' (first|refine qP ?_ (h:=fun hg=>by first|exact ae|exact pc h1|exact ah)|apply sqW|refine rgK fun U V=>?_|(refine aN V ?_;clear V U)|refine aB ?_|refine aA ?_)
   refine cdW rfl tI (fun hc=>absurd hc dCd) (fun hc=>?_)
   repeat' (first|refine qP ?_ (h:=fun hg=>by first|exact ae|exact pc h2|exact ah)|apply sqW|refine rgK fun U V=>?_|(refine aN V ?_;clear V U)|refine skW ?_)
   refine cdW rfl tI (fun hc=>?_) (fun hc=>absurd hc (by first|(simp;done)|(simp;omega)))
   repeat' (first|refine qP ?_ (h:=fun hg=>by first|exact ae|exact pbD ab rfl rfl nds|exact ah)|apply sqW|refine rgK fun U V=>?_|(refine aN V ?_;clear V U)|refine aS ?_|refine rtW ?_)
   exact⟨.inr rfl,_,rfl,Ent.fL kO (Ent.cB _)⟩
 have e:iF f c=(j8 f c,0):=by unfold iF;rw[if_neg hA,if_neg hB]
 rw[e];have hB':c∈f.cuts:=Classical.not_not.1 hB;have cC:0≤aX (l9 c) f.cuts:=by
  have:=rM f.cuts c;rw[decide_eq_true hB'] at this;simpa using this
 obtain⟨i,hi,hil,hieq,Nf⟩:=eh cC;rw[hi] at h2;have he:=qe hil hieq Nf;have hne:f.cuts≠[]:=by intro h;rw[h] at hil;simp at hil
 have hop:bl (j8 f c)=bG f (.sl 3 ((f.cuts.eraseIdx i).map aW) .no):=by
  unfold j8;rw[he];rfl
 have h4:=TCall.val (first:=[]) (aM:=[]) (avs:=[.agg (bl f)]) (zQ f hf oM hne (o0:=.var (bl f)) (o1:=.var (aW c)) (o2:=.var zF) (fun o ho=>by
  simp only[zAw,zCm,or_false] at ho;rcases ho with rfl|rfl|rfl
  · exact okF f
  · exact fun m=>rfl
  · exact fun m=>rfl))
 have hok:([.var (bG f (.sla 5 3 0 f.cuts.length 0)),.var (aW c),.var zF,.var (bG f (.sla 5 3 0 f.cuts.length 0)),.var (bG f (.sla 5 3 0 f.cuts.length 0))]:aa).all (ak 6)=true:=by
  have e5:ak 6 (.var (bG f (.sla 5 3 0 f.cuts.length 0)))=true:=by simp[ak,bG,aG,bk,cD]
  simp only[zAq,zAu,e5];rfl
 have h5:=TCall.val (first:=[]) (aM:=[]) (avs:=[.sla 5 3 0 f.cuts.length 0,.int i,.int ((i:Int)+1)]) (H3 oM hil hok);have hdl:((f.cuts.eraseIdx i).map aW).length=f.cuts.length - 1:=by
  rw[lLm,zDa,if_pos hil]
 refine PCall.bO ab Tryz.func73 rfl rfl Tryz.ntmps73 rfl ?_
 repeat' (first|refine qP ?_ (h:=fun hg=>by first|exact ae|exact pc h1|exact ah)|apply sqW|refine rgK fun U V=>?_|(refine aN V ?_;clear V U)|refine aB ?_|refine aA ?_)
 refine cdW rfl tI (fun hc=>absurd hc dCd) (fun hc=>?_)
 repeat' (first|refine qP ?_ (h:=fun hg=>by first|exact ae|exact pc h2|exact ah)|apply sqW|refine rgK fun U V=>?_|(refine aN V ?_;clear V U)|refine skW ?_)
 refine cdW rfl tI (fun hc=>absurd hc (by first|(simp;done)|(simp;omega))) (fun hc=>?_)
 repeat' (first|refine qS ?_|apply sqW|refine rgK fun U V=>?_|refine aoE (scT (h4) rfl rfl rfl rfl rfl nd rfl rfl nds ?_)|refine skW ?_)
 rintro r s ⟨rfl,rfl⟩
 repeat' (first|refine qS ?_|apply sqW|refine rgK fun U V=>?_|(refine aN V ?_;clear V U)|refine aS ?_|refine aoE (scT (h5) rfl rfl rfl rfl rfl nd rfl rfl nds ?_))
 rintro r s ⟨rfl,rfl⟩;rcases hq:f.cuts.length - 1 with _|q
 · rw[hq] at hdl;have H7:f.cuts.eraseIdx i=[]:=by simpa using hdl
   repeat' (first|refine qS ?_|apply sqW|refine rgK fun U V=>?_|(refine aN V ?_;clear V U)|refine aS ?_)
   refine AWP.dX [(4,.ptr 2 0),(5,.int 0)] ⟨rfl,rfl,tI⟩ ?_;refine rtW ⟨.inr rfl,_,rfl,?_⟩;show Ent (.tup [.agg (bG f (.sl 3 [] .no)),.int 0]) (.tup [.agg (bl (j8 f c)),.int 0]);rw[hop,H7];exact Ent.cB _
 · rw[hq] at hdl;have dY:jk 5 3 0 ((f.cuts.eraseIdx i).map aW) (.sla 5 3 0 (q+1) 0)=.sl 3 ((f.cuts.eraseIdx i).map aW) .no:=by
    unfold jk;dsimp only;rw[if_pos ⟨rfl,rfl,rfl,hdl.symm,rfl⟩]
   repeat' (first|refine qS ?_|apply sqW|refine rgK fun U V=>?_|(refine aN V ?_;clear V U)|refine aS ?_)
   refine AWP.pH (l:=5) (sz:=3) (ver:=0) (es:=(f.cuts.eraseIdx i).map aW) rfl (H5 _) ?_;refine AWP.dX [(4,.ptr 2 0),(5,.int 0)] ⟨rfl,rfl,tI⟩ ?_;show AWP _ _ _ _ _ [_,_,.var (bG f (jk 5 3 0 ((f.cuts.eraseIdx i).map aW) (.sla 5 3 0 (q+1) 0))),_,_,_];rw[dY];refine rtW ⟨.inr rfl,_,rfl,?_⟩;show Ent (.tup [.agg (bG f (.sl 3 ((f.cuts.eraseIdx i).map aW) .no)),.int 0]) (.tup [.agg (bl (j8 f c)),.int 0]);rw[hop];exact Ent.cB _
end Go.Proofs.YtmjdoencpjpegaaGreatDoor.Pl
