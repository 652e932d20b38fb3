/- Parts of the proof. No statement is proved here. -/
import Derived.Test.YtmjdoencpjpegaaGreatDoorP33
set_option linter.unusedVariables false
set_option linter.unusedSimpArgs false
set_option maxHeartbeats 16000000
set_option maxRecDepth 20000
namespace Go.Proofs.YtmjdoencpjpegaaGreatDoor.De
open Go.Ab Go.Pl Pl
attribute [local irreducible] AWP AOps EStep AQ PStep PRun PCall TCall VCall
theorem qo (x y:Int) (l:List Int):dQ x (y::l)=(if y<x then 1 else 0)+dQ x l:=by
 unfold dQ;rw[List.filter_cons];by_cases h:y<x
 · simp[h];omega
 · simp[h]
theorem qp {x:Int}:∀{l:List Int},(∀z∈l,x≤z)→dQ x l=0
 |[],_=>rfl
 | z :: l, h => by
   rw[qo,qp fun w hw=>h w (zAk _ hw),if_neg (by have:=h z zAr;omega)]
theorem Cf {x:Int}:∀{l:List Int},l.Pairwise (·<·)→oA x l=l.take (dQ x l)++x::l.drop (dQ x l)
 |[],_=>rfl
 | y :: l, h => by
   rw[zCq] at h;unfold oA;rw[qo];by_cases hy:y<x
   · rw[if_pos hy,if_pos hy,Cf h.2,zDc,List.take_succ_cons,List.drop_succ_cons];rfl
   · rw[if_neg hy,if_neg hy,qp fun z hz=>by have:=h.1 z hz;omega];rfl
theorem qe {x:Int}:∀{l:List Int},l.Pairwise (·<·)→x∈l→l.erase x=l.eraseIdx (dQ x l)∧dQ x l<l.length
 |[],_,h=>by cases h
 | y :: l, h, hx => by
   rw[zCq] at h;rw[qo];by_cases hy:y=x
   · subst hy;rw[if_neg oM,qp fun z hz=>by have:=h.1 z hz;omega,List.erase_cons_head];exact⟨rfl,by simp⟩
   · have hx2:x∈l:=by
      rcases zAw.1 hx with e|e
      · exact absurd e.symm hy
      · exact e
     obtain⟨e1,e2⟩:=qe h.2 hx2;rw[if_pos (h.1 x hx2),List.erase_cons_tail (by simpa using hy),e1,zDc,List.eraseIdx_cons_succ];exact⟨rfl,by simp only[zAc];omega⟩
theorem below_le (x:Int) (l:List Int):dQ x l≤l.length:=zBm _ _
theorem okD (d:Dec):OkA (.var (bu d)):=fun m=>by simp[ak,bu,aG]
def vvO (x:Int):Nat→aF
 |0=>.arr 1 0 []
 |_=>.arr 1 1 [eI x]
theorem okV (x:Int) (k:Nat):OkA (vvO x k):=fun m=>by
 cases k with
 |zero=>rfl
 |succ k=>simp[vvO,ak,eI,aG]
def osS (o0 o1 o2:aF) (ws:List ba) (r r':Room) (d:Dec) (more:aa):Nat→Nat→aa
 | j1, j2 => match j2 with
   |0=>[o0,o1,o2,.var (stC ws r),.var (bu d),vvO d.a j1]
   |1=>[o0,o1,o2,.var (stC ws r),.var (bu d),vvO d.a j1]++more
   |2=>[o0,o1,o2,.var (stC ws r),.var (bu d),.dead,.dead]
   |_=>[o0,o1,o2,.var (stC ws r'),.var (bu d),.dead,.dead]
def clsO (o:Oper):Nat:=match o.op,o.dst with
 |.buildSlice _ _ _,_=>1
 |.call _,_=>2
 |.store _ _ _,_=>2
 |_,_=>0
theorem Gl {l:List Int} (hl:l.length≤1000000) (hne:l≠[]) {o0 o1 o2 o3 o4 o5:aF} (ho:∀o∈[o0,o1,o2,o3,o4,o5],OkA o):TCall Tryz.prog 132 [.sl 1 (l.map eI) .no] [o0,o1,o2,o3,o4,o5]
 (fun r s=>r=.sla 6 1 0 l.length 0∧s=[o0,o1,o2,o3,o4,o5,.arr 1 0 (l.map eI)]):=by
 have hll:(l.map eI).length=l.length:=sMp;have hok:([o0,o1,o2,o3,o4,o5,.arr 1 0 (l.map eI)]:aa).all (ak 7)=true:=mA (fun o h=>by
  rcases zAy.1 (show o∈[o0,o1,o2,o3,o4,o5]++[.arr 1 0 (l.map eI)] from h) with h|h
  · exact ho o h
  · rw[zA9.1 h];exact Aa l) 7
 refine TCall.body Tryz.func132 rfl rfl Tryz.ntmps132 rfl rfl ?_
 repeat' (first|refine qS ?_|apply sqW|refine rgK fun U V=>?_|(refine aN V ?_;clear V U)|refine aoE (EStep.kC ab rfl rfl rfl rfl rfl tI rfl ?_))
 intro b hb
 repeat' (first|refine qP ?_ (h:=fun hg=>by first|exact PRun.fD ab rfl rfl|exact ae|fail)|apply sqW|refine rgK fun U V=>?_|(refine aN V ?_;clear V U)|refine aoE (EStep.fg ab rfl rfl rfl rfl (Rd.w rfl tI) (Rd.w rfl tI) (.sl rfl (oY _)) (lkG rfl) (lkG rfl) rfl rfl (by simp only[hll];omega) oM ?_)|refine cX ?_ ?_<;>intro hc<;>try simp only[dE] at hc|refine skW ?_|refine rtW ?_)
 · exact absurd (by simpa using hb hc) hne
 · exact⟨.inr rfl,.sla 6 1 0 (l.map eI).length 0,[o0,o1,o2,o3,o4,o5,.arr 1 0 (l.map eI)],⟨by rw[hll],rfl⟩,rfl,by simp,hok,rfl,rfl⟩
theorem D0 {o0 o1 o2 o3 o4 o5:aF} (ho:∀o∈[o0,o1,o2,o3,o4,o5],OkA o):TCall Tryz.prog 132 [.sl 1 (([]:List Int).map eI) .no] [o0,o1,o2,o3,o4,o5]
 (fun r s=>r=.sl 1 [] .fresh∧s=[o0,o1,o2,o3,o4,o5]):=by
 have hok:([o0,o1,o2,o3,o4,o5]:aa).all (ak 6)=true:=mA ho 6;refine TCall.body Tryz.func132 rfl rfl Tryz.ntmps132 rfl rfl ?_
 repeat' (first|refine qS ?_|apply sqW|refine rgK fun U V=>?_|(refine aN V ?_;clear V U)|refine aoE (EStep.kC ab rfl rfl rfl rfl rfl tI rfl ?_))
 intro b hb
 repeat' (first|refine qP ?_ (h:=fun hg=>by first|exact PRun.fD ab rfl rfl|exact ae|fail)|apply sqW|refine rgK fun U V=>?_|(refine aN V ?_;clear V U)|refine aoE (EStep.wa ab rfl rfl rfl dCd (Rd.w rfl tI) (Rd.w rfl tI) (.sl rfl (oY [])) (lkG rfl) (lkG rfl) rfl ?_)|refine cX ?_ ?_<;>intro hc<;>try simp only[dE] at hc|refine skW ?_)
 · refine AWP.tK 2 1 rfl ?_;exact rtW ⟨.inr rfl,.sl 1 [] .fresh,[o0,o1,o2,o3,o4,o5],⟨rfl,rfl⟩,rfl,nLr _,hok,rfl,rfl⟩
 · exact rtW ⟨.inr rfl,.sl 1 [] .fresh,[o0,o1,o2,o3,o4,o5],⟨rfl,rfl⟩,rfl,nLr _,hok,rfl,rfl⟩
end Go.Proofs.YtmjdoencpjpegaaGreatDoor.De
namespace Go.Ab
theorem az.kill {G:Gh} {σ:aa} {w:World} (hs:az G σ w) (l:Nat):az G (σ.set l .dead) w:=by
 refine⟨hs.ax,hs.m0,hs.base,by simp[hs.len],fun l' g o h1 h2=>?_,hs.fresh,hs.inj,hs.out,hs.dfr⟩;by_cases hl:l=l'
 · subst hl;rw[zE2] at h2;simp only[if_true] at h2;split at h2
   · cases h2;exact .dead _
   · cases h2
 · rw[zAs hl] at h2;exact hs.aZ l' g o h1 h2
theorem af.Nr {M:Mem} {B:List GB} {sz:Nat} {t:Tok} {x:Value} (h:af M B (.sl sz [] t) x):af M B (.sl sz [] .no) x:=by
 cases h with
 |sl _ _ _ b off cap f hz hm hr hc ht=>exact .sl sz [] .no b off cap f hz hm hr hc trivial
 |slz _ _ ht=>exact .slz sz .no trivial
 |slzz _ a cap=>exact .slzz sz a cap
theorem TCall.frz0 {P:Program} {f:FuncId} {avs:List AV} {σ τ τ':aa} {l sz:Nat} {t:Tok} (h:TCall P f avs σ (fun r s=>r=.sl sz [] t∧s=τ)) (h2:τ.set l .dead=τ'):TCall P f avs σ (fun r s=>r=.sl sz [] .no∧s=τ'):=by
 refine⟨h.1,fun G w vs hs ha=>(h.2 G w vs hs ha).mono ?_⟩;rintro e w' ⟨v,rv,s,G',k1,⟨rfl,rfl⟩,k3,k4,k5⟩;have:=k4.kill l;rw[h2] at this;exact⟨v,_,_,_,k1,⟨rfl,rfl⟩,k3,this,k5.Nr⟩
end Go.Ab
namespace Go.Proofs.YtmjdoencpjpegaaGreatDoor.De
open Go.Ab Go.Pl Pl
attribute [local irreducible] AWP AOps EStep AQ PStep PRun PCall TCall VCall
theorem Gm {l:List Int} (hl:l.length≤1000000) {i:Nat} (hi:i<l.length) {o0 o1 o2 o3 o4:aF} (ho:∀o∈[o0,o1,o2,o3,o4],OkA o) :
 TCall Tryz.prog 131 [.sla 5 1 0 l.length 0,.int i,.int ((i:Int)+1)] [o0,o1,o2,o3,o4,.arr 1 0 (l.map eI)] (fun r s=>r=.sl 1 ((l.eraseIdx i).map eI) .no∧s=[o0,o1,o2,o3,o4,.dead]):=by
 have hE:∀e∈(l.eraseIdx i).map eI,∃c:Int,e=eI c:=fun e he=>by
  obtain⟨c,_,rfl⟩:=zAf.1 he;exact⟨c,rfl⟩
 have hT:=F4 hl hi (mA ho 6);have hlen:(l.eraseIdx i).length=l.length - 1:=by rw[zDa,if_pos hi]
 rcases hq:l.length - 1 with _|q
 · rw[hq] at hT hlen;have H7:l.eraseIdx i=[]:=zAv hlen;rw[H7] at hT ⊢;exact TCall.frz0 (l:=5) (t:=.own 5) (τ:=[o0,o1,o2,o3,o4,.arr 1 0 []]) hT rfl
 · rw[hq] at hT hlen;refine TCall.frz (l:=5) (es:=(l.eraseIdx i).map eI) (τ:=fun ver=>[o0,o1,o2,o3,o4,.arr 1 ver ((l.eraseIdx i).map eI)]) ?_ (fun _=>rfl) (fun _=>rfl) (qj hE);refine TCall.mono hT ?_;rintro r s ⟨rfl,rfl⟩;exact⟨0,by rw[lLm,hlen];rfl,rfl⟩
theorem K7 {o0 o1 o2:aF} (h0:OkA o0) (h1:OkA o1) (h2:OkA o2) (ws:List ba) (r:Room) (hr:r.aY.Pairwise (·<·)) (hl:r.aY.length≤1000) (d:Dec) :
 TCall Tryz.prog 77 [.ptr 3 0,.agg (bu d)] [o0,o1,o2,.var (stC ws r)] (fun rv s=>rv=.int (ee r.aY d).2∧s=[o0,o1,o2,.var (stC ws { r with aY:=(ee r.aY d).1 })]):=by
 have hok:∀r,([o0,o1,o2,.var (stC ws r)]:aa).all (ak 4)=true:=fun r=>by
  simp only[zAq,zAu,h0 4,h1 4,h2 4,eO ws r 4];rfl
 have hbs:=zZ r.aY hr oM d.a;have Aj:∀v,nj d=v→(decide (d.a<1)||decide (d.a>20)||decide (d.b<0)||decide (d.b>1)||d.c != 0)=v:=fun v h=>by rw[zV];exact h
 have ho4:∀o∈[o0,o1,o2,.var (stC ws r),.var (bu d)],OkA o:=fun o h=>by
  rcases zAw.1 h with rfl|h
  · exact h0
  rcases zAw.1 h with rfl|h
  · exact h1
  rcases zAw.1 h with rfl|h
  · exact h2
  rcases zAw.1 h with rfl|h
  · exact eO ws r
  rw[zA9.1 h];exact okD d
 by_cases hA:nj d=true
 · have e:ee r.aY d=(r.aY,1):=if_pos hA;rw[e];refine TCall.body Tryz.func77 rfl rfl Tryz.ntmps77 rfl rfl ?_
   repeat' (first|refine qS ?_|apply sqW|refine rgK fun U V=>?_|(refine aN V ?_;clear V U)|refine aB ?_)
   refine cdW rfl tI (fun hc=>?_) (fun hc=>Bool.noConfusion (hc.symm.trans (Aj _ hA)))
   repeat' (first|refine qS ?_|apply sqW|refine rgK fun U V=>?_|(refine aN V ?_;clear V U)|refine rtW ?_)
   exact⟨.inr rfl,_,[o0,o1,o2,.var (stC ws r)],⟨rfl,rfl⟩,rfl,by simp,hok r,rfl,rfl⟩
 have hA2:nj d=false:=by simpa using hA
 have hqe:(d.b==1)=decide (d.b=1):=zB3.2 sMp;have hBq:∀v,(decide (d.a∈r.aY)==decide (d.b=1))=v→(decide (d.a∈r.aY)==(d.b==1))=v:=fun v h=>by rw[hqe];exact h
 by_cases hB:(decide (d.a∈r.aY)==decide (d.b=1))=true
 · have e:ee r.aY d=(r.aY,6):=by unfold ee;rw[if_neg hA,if_pos hB]
   rw[e];refine TCall.body Tryz.func77 rfl rfl Tryz.ntmps77 rfl rfl ?_
   repeat' (first|refine qS ?_|apply sqW|refine rgK fun U V=>?_|(refine aN V ?_;clear V U)|refine aB ?_)
   refine cdW rfl tI (fun hc=>Bool.noConfusion ((Aj _ hA2).symm.trans hc)) (fun hc=>?_)
   repeat' (first|refine qT ?_|apply sqW|refine rgK fun U V=>?_|(refine aN V ?_;clear V U)|refine cX ?_ ?_<;>intro hc<;>try simp only[dE] at hc|refine blK ?_|refine skW ?_|refine rtW ?_|refine kD fun U V=>?_|(refine aqN (V _ ?_);clear V U)|refine aqQ rfl rfl (fun hg=>by first|exact ae|exact pc hbs|exact ah) (by exact rfl) ?_)
   all_goals first|(exfalso;rename_i g2;exact Bool.noConfusion (g2.symm.trans (hBq _ hB)))|skip
   exact⟨.inr rfl,_,[o0,o1,o2,.var (stC ws r)],⟨rfl,rfl⟩,rfl,by simp,hok r,rfl,rfl⟩
 by_cases hM:d.a∈r.aY
 · obtain⟨he,hlt⟩:=qe hr hM;have e:ee r.aY d=(r.aY.eraseIdx (dQ d.a r.aY),0):=by unfold ee;rw[if_neg hA,if_neg hB,if_pos hM,he]
   rw[e];have hne:r.aY≠[]:=by intro h;rw[h] at hM;cases hM
   rw[decide_eq_true hM] at hbs hB;have hb1:decide (d.b=1)=false:=by
    cases h:decide (d.b=1) with
    |false=>rfl
    |true=>rw[h] at hB;exact absurd rfl hB
   have wc:=TCall.val (first:=[]) (aM:=[]) (avs:=[.sl 1 (r.aY.map eI) .no]) (Ik oM hne ho4);have wd:=TCall.val (first:=[]) (aM:=[]) (avs:=[.sla 5 1 0 r.aY.length 0,.int (dQ d.a r.aY),.int ((dQ d.a r.aY:Int)+1)]) (Gm oM hlt ho4);refine TCall.body Tryz.func77 rfl rfl Tryz.ntmps77 rfl rfl ?_
   repeat' (first|refine qS ?_|apply sqW|refine rgK fun U V=>?_|(refine aN V ?_;clear V U)|refine aB ?_)
   refine cdW rfl tI (fun hc=>Bool.noConfusion ((Aj _ hA2).symm.trans hc)) (fun hc=>?_)
   repeat' (first|refine qT ?_|apply sqW|refine rgK fun U V=>?_|(refine aN V ?_;clear V U)|refine aoE (scT (wc) rfl rfl rfl rfl rfl nd rfl rfl nds ?_)|refine cX ?_ ?_<;>intro hc<;>try simp only[dE] at hc|refine blK ?_|refine skW ?_|refine rtW ?_|refine kD fun U V=>?_|(refine aqN (V _ ?_);clear V U)|refine aqQ rfl rfl (fun hg=>by first|exact ae|exact pc hbs|exact ah) (by exact rfl) ?_)
   all_goals first|(exfalso;rw[hqe,hb1] at hc;exact absurd hc dCd)|(exfalso;exact absurd hc dCd)|skip
   rintro _ _ ⟨rfl,rfl⟩
   repeat' (first|refine qS ?_|refine aoE (scT (wd) rfl rfl rfl rfl rfl nd rfl rfl nds ?_))
   rintro _ _ ⟨rfl,rfl⟩
   repeat' (first|refine qT ?_|apply sqW|refine rgK fun U V=>?_|(refine aN V ?_;clear V U)|refine aS ?_|refine rtW ?_)
   exact⟨.inr rfl,_,[o0,o1,o2,.var (stC ws { r with aY:=r.aY.eraseIdx (dQ d.a r.aY) })],⟨rfl,rfl⟩,rfl,by simp,hok _,rfl,rfl⟩
 have e:ee r.aY d=(r.aY.take (dQ d.a r.aY)++d.a::r.aY.drop (dQ d.a r.aY),0):=by
  unfold ee;rw[if_neg hA,if_neg hB,if_neg hM,Cf hr]
 rw[e];rw[decide_eq_false hM] at hbs hB;have hb1:decide (d.b=1)=true:=by
  cases h:decide (d.b=1) with
  |true=>rfl
  |false=>rw[h] at hB;exact absurd rfl hB
 have D2:=below_le d.a r.aY;obtain⟨B,hBe⟩:∃B,dQ d.a r.aY=B:=⟨_,rfl⟩
 rw[hBe] at hbs D2 ⊢;obtain⟨L,hL⟩:∃L,r.aY.take B++d.a::r.aY.drop B=L:=⟨_,rfl⟩
 have ho5:∀k1,∀o∈[o0,o1,o2,.var (stC ws r),.var (bu d),vvO d.a k1],OkA o:=fun k1 o h=>by
  rcases zAy.1 (show o∈[o0,o1,o2,.var (stC ws r),.var (bu d)]++[vvO d.a k1] from h) with h|h
  · exact ho4 o h
  · rw[zA9.1 h];exact okV d.a k1
 by_cases hn:r.aY=[]
 · have hB0:B=0:=by rw[hn] at D2;simpa using D2
   have hLe:L=[d.a]:=by rw[←hL,hn,hB0];rfl
   have wi:=TCall.val (first:=[]) (aM:=[]) (avs:=[.sl 1 [] .fresh,.int 0,.sla 5 1 0 1 1]) (F7 d.a ho4);have wc:=fun k1=>TCall.val (first:=[]) (aM:=[]) (avs:=[.sl 1 (([]:List Int).map eI) .no]) (D0 (ho5 k1))
   rw[hL,hLe];rw[hB0] at hbs;refine TCall.body Tryz.func77 rfl rfl Tryz.ntmps77 rfl rfl ?_
   repeat' (first|refine qS ?_|apply sqW|refine rgK fun U V=>?_|(refine aN V ?_;clear V U)|refine aB ?_)
   refine cdW rfl tI (fun hc=>Bool.noConfusion ((Aj _ hA2).symm.trans hc)) (fun hc=>?_)
   repeat' (first|refine qT ?_|apply sqW|refine rgK fun U V=>?_|(refine aN V ?_;clear V U)|refine cX ?_ ?_<;>intro hc<;>try simp only[dE] at hc|refine blK ?_|refine skW ?_|refine rtW ?_|refine kD fun U V=>?_|(refine aqN (V _ ?_);clear V U)|refine aqQ rfl rfl (fun hg=>by first|exact ae|exact pc hbs|exact ah) (by exact rfl) ?_)
   all_goals first|(exfalso;rw[hqe,hb1] at hc;exact absurd hc dCd)|(exfalso;exact absurd hc dCd)|skip
   refine AWP.kG 1 ?_;refine AWP.xY clsO (osS o0 o1 o2 ws r { r with aY:=[d.a] } d []) rfl (by kernel_rfl) dKn rfl dKn (fun U V=>?_)
   repeat' (first
    |refine WQ.q rfl dKn rfl rfl (fun k1 k2 h1 h2 hg=>by(have a1:k1=0∨k1=1∨k1=2:=oM);(have a2:k2=0∨k2=1∨k2=2:=oM);(rcases a1 with rfl|rfl|rfl)<;>(rcases a2 with rfl|rfl|rfl)<;>(first|exact ae|exact ah)) (by exact rfl) ?_)
   refine WQ.e2 0 1 (v:=.sl 1 [] .fresh) (d:=some 47) rfl dKn rfl ?_ ?_
   · intro au he k1 hk0 hk1;refine scT (wc k1) rfl rfl rfl rfl rfl tI rfl (by simp only[rds,ai (he 46 dKn),←hn];rfl) ⟨(by rw[aj (he 46 dKn)];first|exact tI|exact rfl),tI⟩ ?_;rintro r s ⟨rfl,rfl⟩;exact⟨rfl,rfl⟩
   repeat' (first
    |refine WQ.q rfl dKn rfl rfl (fun k1 k2 h1 h2 hg=>by(have a1:k1=0∨k1=1∨k1=2:=oM);(have a2:k2=0∨k2=1∨k2=2:=oM);(rcases a1 with rfl|rfl|rfl)<;>(rcases a2 with rfl|rfl|rfl)<;>(first|exact ae|exact ah)) (by exact rfl) ?_)
   refine WQ.e1 1 (v:=.sla 5 1 0 1 1) (d:=some 51) rfl dKn rfl ?_ ?_
   · intro au he k2 hk2;rcases k2 with _|_|k2
     · exact EStep.my (l:=5) (sz:=1) (es:=[eI d.a]) ab rfl rfl rfl dCd (by simp only[tp,eW,ai (he 50 dKn)];rfl) ⟨(by rw[aj (he 50 dKn)];first|exact tI|exact rfl),tI⟩ rfl ⟨rfl,rfl⟩
     · exact EStep.my (l:=5) (sz:=1) (es:=[eI d.a]) ab rfl rfl rfl dCd (by simp only[tp,eW,ai (he 50 dKn)];rfl) ⟨(by rw[aj (he 50 dKn)];first|exact tI|exact rfl),tI⟩ rfl ⟨rfl,rfl⟩
     · omega
   repeat' (first
    |refine WQ.q rfl dKn rfl rfl (fun k1 k2 h1 h2 hg=>by(have a1:k1=0∨k1=1∨k1=2:=oM);(have a2:k2=0∨k2=1∨k2=2:=oM);(rcases a1 with rfl|rfl|rfl)<;>(rcases a2 with rfl|rfl|rfl)<;>(first|exact ae|exact ah)) (by exact rfl) ?_)
   refine WQ.e2 1 1 (v:=.sl 1 [eI d.a] .no) (d:=some 52) rfl dKn rfl ?_ ?_
   · intro au he k1 hk0 hk1;obtain rfl:k1=1:=oM;refine scT wi rfl rfl rfl rfl rfl tI rfl (by simp only[rds,ai (he 47 dKn),ai (he 48 dKn),ai (he 51 dKn)];rfl) ⟨(by rw[aj (he 47 dKn)];first|exact tI|exact rfl),(by rw[aj (he 48 dKn)];first|exact tI|exact rfl),(by rw[aj (he 51 dKn)];first|exact tI|exact rfl),tI⟩ ?_;rintro r s ⟨rfl,rfl⟩;exact⟨rfl,rfl⟩
   repeat' (first|refine WQ.qb 2 3 rfl dKn rfl rfl (fun k1 k2 g2 g4 hg=>by first|exact ae|exact ah) (by exact rfl) ?_)
   refine WQ.e2 1 1 (v:=.any) (d:=none) rfl dKn rfl ?_ ?_
   · intro au he k1 hk0 hk1;obtain rfl:k1=1:=oM;exact stW ab rfl rfl ((ai (he 55 dKn)).trans rfl) (by rw[aj (he 55 dKn)];first|exact tI|exact rfl) rfl ((ai (he 52 dKn)).trans rfl) (by rw[aj (he 52 dKn)];first|exact tI|exact rfl) rfl rfl rfl rfl rfl rfl rfl ⟨rfl,rfl⟩
   refine WQ.nil (V _ _ _ ?_);clear V U;show AWP _ _ _ _ _ [o0,o1,o2,.var (stC ws { r with aY:=[d.a] }),.var (bu d),.dead,.dead]
   repeat' (first|refine qS ?_|apply sqW|refine rgK fun U V=>?_|(refine aN V ?_;clear V U)|refine rtW ?_)
   exact⟨.inr rfl,_,[o0,o1,o2,.var (stC ws { r with aY:=[d.a] })],⟨rfl,rfl⟩,rfl,by simp,hok _,rfl,rfl⟩
 · have wi:=TCall.val (first:=[]) (aM:=[]) (avs:=[.sla 6 1 0 r.aY.length 0,.int B,.sla 5 1 0 1 1]) (Iq hn hl D2 d.a ho4);have wc:=fun k1=>TCall.val (first:=[]) (aM:=[]) (avs:=[.sl 1 (r.aY.map eI) .no]) (Gl oM hn (ho5 k1))
   rw[hL] at wi ⊢;refine TCall.body Tryz.func77 rfl rfl Tryz.ntmps77 rfl rfl ?_
   repeat' (first|refine qS ?_|apply sqW|refine rgK fun U V=>?_|(refine aN V ?_;clear V U)|refine aB ?_)
   refine cdW rfl tI (fun hc=>Bool.noConfusion ((Aj _ hA2).symm.trans hc)) (fun hc=>?_)
   repeat' (first|refine qT ?_|apply sqW|refine rgK fun U V=>?_|(refine aN V ?_;clear V U)|refine cX ?_ ?_<;>intro hc<;>try simp only[dE] at hc|refine blK ?_|refine skW ?_|refine rtW ?_|refine kD fun U V=>?_|(refine aqN (V _ ?_);clear V U)|refine aqQ rfl rfl (fun hg=>by first|exact ae|exact pc hbs|exact ah) (by exact rfl) ?_)
   all_goals first|(exfalso;rw[hqe,hb1] at hc;exact absurd hc dCd)|(exfalso;exact absurd hc dCd)|skip
   refine AWP.kG 1 ?_;refine AWP.xY clsO (osS o0 o1 o2 ws r { r with aY:=L } d [.arr 1 0 (r.aY.map eI)]) rfl (by kernel_rfl) dKn rfl dKn (fun U V=>?_)
   repeat' (first
    |refine WQ.q rfl dKn rfl rfl (fun k1 k2 h1 h2 hg=>by(have a1:k1=0∨k1=1∨k1=2:=oM);(have a2:k2=0∨k2=1∨k2=2:=oM);(rcases a1 with rfl|rfl|rfl)<;>(rcases a2 with rfl|rfl|rfl)<;>(first|exact ae|exact ah)) (by exact rfl) ?_)
   refine WQ.e2 0 1 (v:=.sla 6 1 0 r.aY.length 0) (d:=some 47) rfl dKn rfl ?_ ?_
   · intro au he k1 hk0 hk1;refine scT (wc k1) rfl rfl rfl rfl rfl tI rfl (by simp only[rds,ai (he 46 dKn)];rfl) ⟨(by rw[aj (he 46 dKn)];first|exact tI|exact rfl),tI⟩ ?_;rintro r s ⟨rfl,rfl⟩;exact⟨rfl,rfl⟩
   repeat' (first
    |refine WQ.q rfl dKn rfl rfl (fun k1 k2 h1 h2 hg=>by(have a1:k1=0∨k1=1∨k1=2:=oM);(have a2:k2=0∨k2=1∨k2=2:=oM);(rcases a1 with rfl|rfl|rfl)<;>(rcases a2 with rfl|rfl|rfl)<;>(first|exact ae|exact ah)) (by exact rfl) ?_)
   refine WQ.e1 1 (v:=.sla 5 1 0 1 1) (d:=some 51) rfl dKn rfl ?_ ?_
   · intro au he k2 hk2;rcases k2 with _|_|k2
     · exact EStep.my (l:=5) (sz:=1) (es:=[eI d.a]) ab rfl rfl rfl dCd (by simp only[tp,eW,ai (he 50 dKn)];rfl) ⟨(by rw[aj (he 50 dKn)];first|exact tI|exact rfl),tI⟩ rfl ⟨rfl,rfl⟩
     · exact EStep.my (l:=5) (sz:=1) (es:=[eI d.a]) ab rfl rfl rfl dCd (by simp only[tp,eW,ai (he 50 dKn)];rfl) ⟨(by rw[aj (he 50 dKn)];first|exact tI|exact rfl),tI⟩ rfl ⟨rfl,rfl⟩
     · omega
   repeat' (first
    |refine WQ.q rfl dKn rfl rfl (fun k1 k2 h1 h2 hg=>by(have a1:k1=0∨k1=1∨k1=2:=oM);(have a2:k2=0∨k2=1∨k2=2:=oM);(rcases a1 with rfl|rfl|rfl)<;>(rcases a2 with rfl|rfl|rfl)<;>(first|exact ae|exact ah)) (by exact rfl) ?_)
   refine WQ.e2 1 1 (v:=.sl 1 (L.map eI) .no) (d:=some 52) rfl dKn rfl ?_ ?_
   · intro au he k1 hk0 hk1;obtain rfl:k1=1:=oM;refine scT wi rfl rfl rfl rfl rfl tI rfl (by simp only[rds,ai (he 47 dKn),ai (he 48 dKn),ai (he 51 dKn)];rfl) ⟨(by rw[aj (he 47 dKn)];first|exact tI|exact rfl),(by rw[aj (he 48 dKn)];first|exact tI|exact rfl),(by rw[aj (he 51 dKn)];first|exact tI|exact rfl),tI⟩ ?_;rintro r s ⟨rfl,rfl⟩;exact⟨rfl,rfl⟩
   repeat' (first|refine WQ.qb 2 3 rfl dKn rfl rfl (fun k1 k2 g2 g4 hg=>by first|exact ae|exact ah) (by exact rfl) ?_)
   refine WQ.e2 1 1 (v:=.any) (d:=none) rfl dKn rfl ?_ ?_
   · intro au he k1 hk0 hk1;obtain rfl:k1=1:=oM;exact stW ab rfl rfl ((ai (he 55 dKn)).trans rfl) (by rw[aj (he 55 dKn)];first|exact tI|exact rfl) rfl ((ai (he 52 dKn)).trans rfl) (by rw[aj (he 52 dKn)];first|exact tI|exact rfl) rfl rfl rfl rfl rfl rfl rfl ⟨rfl,rfl⟩
   refine WQ.nil (V _ _ _ ?_);clear V U;show AWP _ _ _ _ _ [o0,o1,o2,.var (stC ws { r with aY:=L }),.var (bu d),.dead,.dead]
   repeat' (first|refine qS ?_|apply sqW|refine rgK fun U V=>?_|(refine aN V ?_;clear V U)|refine rtW ?_)
   exact⟨.inr rfl,_,[o0,o1,o2,.var (stC ws { r with aY:=L })],⟨rfl,rfl⟩,rfl,by simp,hok _,rfl,rfl⟩
end Go.Proofs.YtmjdoencpjpegaaGreatDoor.De
