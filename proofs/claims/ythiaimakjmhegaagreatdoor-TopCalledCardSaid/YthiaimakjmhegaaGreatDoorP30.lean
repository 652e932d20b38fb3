/- Parts of the proof. No statement is proved here. -/
import Derived.Test.YthiaimakjmhegaaGreatDoorP27
import Derived.Test.YthiaimakjmhegaaGreatDoorP28
set_option linter.unusedVariables false
set_option linter.unusedSimpArgs false
set_option maxHeartbeats 16000000
set_option maxRecDepth 20000
namespace Go.Proofs.YthiaimakjmhegaaGreatDoor.De
open Go.Ab Go.Pl Pl
attribute [local irreducible] AWP AOps EStep AQ PStep PRun PCall TCall VCall
theorem oV (x y:Int) (l:List Int):dF x (y::l)=(if y<x then 1 else 0)+dF x l:=by
 unfold dF;rw[List.filter_cons];by_cases h:y<x
 · simp[h];omega
 · simp[h]
theorem oW {x:Int}:∀{l:List Int},(∀z∈l,x≤z)→dF x l=0
 |[],_=>rfl
 | z :: l, h => by
   rw[oV,oW fun w hw=>h w (zB9 _ hw),if_neg (by have:=h z zB8;omega)]
theorem AY {x:Int}:∀{l:List Int},l.Pairwise (·<·)→mZ x l=l.take (dF x l)++x::l.drop (dF x l)
 |[],_=>rfl
 | y :: l, h => by
   rw[zCs] at h;unfold mZ;rw[oV];by_cases hy:y<x
   · rw[if_pos hy,if_pos hy,AY h.2,zD0,List.take_succ_cons,List.drop_succ_cons];rfl
   · rw[if_neg hy,if_neg hy,oW fun z hz=>by have:=h.1 z hz;omega];rfl
theorem oS {x:Int}:∀{l:List Int},l.Pairwise (·<·)→x∈l→l.erase x=l.eraseIdx (dF x l)∧dF x l<l.length
 |[],_,h=>by cases h
 | y :: l, h, hx => by
   rw[zCs] at h;rw[oV];by_cases hy:y=x
   · subst hy;rw[if_neg oM,oW fun z hz=>by have:=h.1 z hz;omega,List.erase_cons_head];exact⟨rfl,by simp⟩
   · have hx2:x∈l:=by
      rcases zAo.1 hx with e|e
      · exact absurd e.symm hy
      · exact e
     obtain⟨e1,e2⟩:=oS h.2 hx2;rw[if_pos (h.1 x hx2),List.erase_cons_tail (by simpa using hy),e1,zD0,List.eraseIdx_cons_succ];exact⟨rfl,by simp only[zAd];omega⟩
theorem below_le (x:Int) (l:List Int):dF x l≤l.length:=zDs _ _
theorem okD (d:Dec):OkA (.var (bx d)):=fun m=>by simp[aD,bx,aO]
def vvO (x:Int):Nat→bc
 |0=>.arr 1 0 []
 |_=>.arr 1 1 [eI x]
theorem okV (x:Int) (k:Nat):OkA (vvO x k):=fun m=>by
 cases k with
 |zero=>rfl
 |succ k=>simp[vvO,aD,eI,aO]
def osS (o0 o1 o2:bc) (ws:List aV) (r r':Room) (d:Dec) (more:ae):Nat→Nat→ae
 | j1, j2 => match j2 with
   |0=>[o0,o1,o2,.var (stC ws r),.var (bx d),vvO d.a j1]
   |1=>[o0,o1,o2,.var (stC ws r),.var (bx d),vvO d.a j1]++more
   |2=>[o0,o1,o2,.var (stC ws r),.var (bx d),.dead,.dead]
   |_=>[o0,o1,o2,.var (stC ws r'),.var (bx d),.dead,.dead]
def clsO (o:Oper):Nat:=match o.op,o.dst with
 |.buildSlice _ _ _,_=>1
 |.call _,_=>2
 |.store _ _ _,_=>2
 |_,_=>0
theorem E6 {l:List Int} (hl:l.length≤1000000) (hne:l≠[]) {o0 o1 o2 o3 o4 o5:bc} (ho:∀o∈[o0,o1,o2,o3,o4,o5],OkA o):TCall Tryz.prog 238 [.sl 1 (l.map eI) .no] [o0,o1,o2,o3,o4,o5]
 (fun r s=>r=.sla 6 1 0 l.length 0∧s=[o0,o1,o2,o3,o4,o5,.arr 1 0 (l.map eI)]):=by
 have hll:(l.map eI).length=l.length:=sMp;have hok:([o0,o1,o2,o3,o4,o5,.arr 1 0 (l.map eI)]:ae).all (aD 7)=true:=mF (fun o h=>by
  rcases zAx.1 (show o∈[o0,o1,o2,o3,o4,o5]++[.arr 1 0 (l.map eI)] from h) with h|h
  · exact ho o h
  · rw[zA9.1 h];exact yJ l) 7
 refine TCall.body Tryz.func238 rfl rfl Tryz.ntmps238 rfl rfl ?_
 repeat' (first|refine qS ?_|apply sqW|refine rgK fun U V=>?_|(refine aN V ?_;clear V U)|refine aoE (EStep.kC ab rfl rfl rfl rfl rfl tI rfl ?_))
 intro b hb
 repeat' (first|refine qP ?_ (h:=fun hg=>by first|exact PRun.fM ab rfl rfl|exact aa|exact af|fail)|apply sqW|refine rgK fun U V=>?_|(refine aN V ?_;clear V U)|refine aoE (EStep.eK ab rfl rfl rfl rfl (Rd.w rfl tI) (Rd.w rfl tI) (.sl rfl (nN _)) (lkG rfl) (lkG rfl) rfl rfl (by simp only[hll];omega) oM ?_)|refine cX ?_ ?_<;>intro hc<;>try simp only[dE] at hc|refine skW ?_|refine rtW ?_)
 · exact absurd (by simpa using hb hc) hne
 · exact⟨.inr rfl,.sla 6 1 0 (l.map eI).length 0,[o0,o1,o2,o3,o4,o5,.arr 1 0 (l.map eI)],⟨by rw[hll],rfl⟩,rfl,by simp,hok,rfl,rfl⟩
theorem Cw {o0 o1 o2 o3 o4 o5:bc} (ho:∀o∈[o0,o1,o2,o3,o4,o5],OkA o):TCall Tryz.prog 238 [.sl 1 (([]:List Int).map eI) .no] [o0,o1,o2,o3,o4,o5]
 (fun r s=>r=.sl 1 [] .fresh∧s=[o0,o1,o2,o3,o4,o5]):=by
 have hok:([o0,o1,o2,o3,o4,o5]:ae).all (aD 6)=true:=mF ho 6;refine TCall.body Tryz.func238 rfl rfl Tryz.ntmps238 rfl rfl ?_
 repeat' (first|refine qS ?_|apply sqW|refine rgK fun U V=>?_|(refine aN V ?_;clear V U)|refine aoE (EStep.kC ab rfl rfl rfl rfl rfl tI rfl ?_))
 intro b hb
 repeat' (first|refine qP ?_ (h:=fun hg=>by first|exact PRun.fM ab rfl rfl|exact aa|exact af|fail)|apply sqW|refine rgK fun U V=>?_|(refine aN V ?_;clear V U)|refine aoE (EStep.Av ab rfl rfl rfl dCd (Rd.w rfl tI) (Rd.w rfl tI) (.sl rfl (nN [])) (lkG rfl) (lkG rfl) rfl ?_)|refine cX ?_ ?_<;>intro hc<;>try simp only[dE] at hc|refine skW ?_)
 · refine AWP.yb 2 1 rfl ?_;exact rtW ⟨.inr rfl,.sl 1 [] .fresh,[o0,o1,o2,o3,o4,o5],⟨rfl,rfl⟩,rfl,nLr _,hok,rfl,rfl⟩
 · exact rtW ⟨.inr rfl,.sl 1 [] .fresh,[o0,o1,o2,o3,o4,o5],⟨rfl,rfl⟩,rfl,nLr _,hok,rfl,rfl⟩
end Go.Proofs.YthiaimakjmhegaaGreatDoor.De
namespace Go.Ab
theorem aC.kill {G:Gh} {σ:ae} {w:World} (hs:aC G σ w) (l:Nat):aC G (σ.set l .dead) w:=by
 refine⟨hs.ay,hs.m0,hs.base,by simp[hs.len],fun l' g o h1 h2=>?_,hs.fresh,hs.inj,hs.out,hs.dfr⟩;by_cases hl:l=l'
 · subst hl;rw[List.getElem?_set] at h2;simp only[if_true] at h2;split at h2
   · cases h2;exact .dead _
   · cases h2
 · rw[zAp hl] at h2;exact hs.bB l' g o h1 h2
theorem ag.L0 {M:Mem} {B:List GB} {sz:Nat} {t:Tok} {x:Value} (h:ag M B (.sl sz [] t) x):ag M B (.sl sz [] .no) x:=by
 cases h with
 |sl _ _ _ b off cap f hz hm hr hc ht=>exact .sl sz [] .no b off cap f hz hm hr hc trivial
 |slz _ _ ht=>exact .slz sz .no trivial
 |slzz _ a cap=>exact .slzz sz a cap
theorem TCall.frz0 {P:Program} {f:FuncId} {avs:List AV} {σ τ τ':ae} {l sz:Nat} {t:Tok} (h:TCall P f avs σ (fun r s=>r=.sl sz [] t∧s=τ)) (h2:τ.set l .dead=τ'):TCall P f avs σ (fun r s=>r=.sl sz [] .no∧s=τ'):=by
 refine⟨h.1,fun G w vs hs ha=>(h.2 G w vs hs ha).mono ?_⟩;rintro e w' ⟨v,rv,s,G',k1,⟨rfl,rfl⟩,k3,k4,k5⟩;have:=k4.kill l;rw[h2] at this;exact⟨v,_,_,_,k1,⟨rfl,rfl⟩,k3,this,k5.L0⟩
end Go.Ab
namespace Go.Proofs.YthiaimakjmhegaaGreatDoor.De
open Go.Ab Go.Pl Pl
attribute [local irreducible] AWP AOps EStep AQ PStep PRun PCall TCall VCall
theorem E7 {l:List Int} (hl:l.length≤1000000) {i:Nat} (hi:i<l.length) {o0 o1 o2 o3 o4:bc} (ho:∀o∈[o0,o1,o2,o3,o4],OkA o) :
 TCall Tryz.prog 237 [.sla 5 1 0 l.length 0,.int i,.int ((i:Int)+1)] [o0,o1,o2,o3,o4,.arr 1 0 (l.map eI)] (fun r s=>r=.sl 1 ((l.eraseIdx i).map eI) .no∧s=[o0,o1,o2,o3,o4,.dead]):=by
 have hE:∀e∈(l.eraseIdx i).map eI,∃c:Int,e=eI c:=fun e he=>by
  obtain⟨c,_,rfl⟩:=zAq.1 he;exact⟨c,rfl⟩
 have hT:=EL hl hi (mF ho 6);have hlen:(l.eraseIdx i).length=l.length - 1:=by rw[zDv,if_pos hi]
 rcases hq:l.length - 1 with _|q
 · rw[hq] at hT hlen;have GH:l.eraseIdx i=[]:=zAr hlen;rw[GH] at hT ⊢;exact TCall.frz0 (l:=5) (t:=.own 5) (τ:=[o0,o1,o2,o3,o4,.arr 1 0 []]) hT rfl
 · rw[hq] at hT hlen;refine TCall.frz (l:=5) (es:=(l.eraseIdx i).map eI) (τ:=fun ver=>[o0,o1,o2,o3,o4,.arr 1 ver ((l.eraseIdx i).map eI)]) ?_ (fun _=>rfl) (fun _=>rfl) (oU hE);refine TCall.mono hT ?_;rintro r s ⟨rfl,rfl⟩;exact⟨0,by rw[lLm,hlen];rfl,rfl⟩
theorem Jv {o0 o1 o2:bc} (h0:OkA o0) (h1:OkA o1) (h2:OkA o2) (ws:List aV) (r:Room) (hr:r.aZ.Pairwise (·<·)) (hl:r.aZ.length≤1000) (d:Dec) :
 TCall Tryz.prog 173 [.ptr 3 0,.agg (bx d)] [o0,o1,o2,.var (stC ws r)] (fun rv s=>rv=.int (dT r.aZ d).2∧s=[o0,o1,o2,.var (stC ws { r with aZ:=(dT r.aZ d).1 })]):=by
 have hok:∀r,([o0,o1,o2,.var (stC ws r)]:ae).all (aD 4)=true:=fun r=>by
  simp only[zB4,zBg,h0 4,h1 4,h2 4,eP ws r 4];rfl
 have hbs:=yH r.aZ hr oM d.a;have yP:∀v,l8 d=v→(decide (d.a<1)||decide (d.a>20)||decide (d.b<0)||decide (d.b>1)||d.c != 0)=v:=fun v h=>by rw[tK];exact h
 have ho4:∀o∈[o0,o1,o2,.var (stC ws r),.var (bx d)],OkA o:=fun o h=>by
  rcases zAo.1 h with rfl|h
  · exact h0
  rcases zAo.1 h with rfl|h
  · exact h1
  rcases zAo.1 h with rfl|h
  · exact h2
  rcases zAo.1 h with rfl|h
  · exact eP ws r
  rw[zA9.1 h];exact okD d
 by_cases hA:l8 d=true
 · have e:dT r.aZ d=(r.aZ,1):=if_pos hA;rw[e];refine TCall.body Tryz.func173 rfl rfl Tryz.ntmps173 rfl rfl ?_
   repeat' (first|refine qS ?_|apply sqW|refine rgK fun U V=>?_|(refine aN V ?_;clear V U)|refine aB ?_)
   refine cdW rfl tI (fun hc=>?_) (fun hc=>Bool.noConfusion (hc.symm.trans (yP _ hA)))
   repeat' (first|refine qS ?_|apply sqW|refine rgK fun U V=>?_|(refine aN V ?_;clear V U)|refine rtW ?_)
   exact⟨.inr rfl,_,[o0,o1,o2,.var (stC ws r)],⟨rfl,rfl⟩,rfl,by simp,hok r,rfl,rfl⟩
 have hA2:l8 d=false:=by simpa using hA
 have hqe:(d.b==1)=decide (d.b=1):=zAi.2 sMp;have hBq:∀v,(decide (d.a∈r.aZ)==decide (d.b=1))=v→(decide (d.a∈r.aZ)==(d.b==1))=v:=fun v h=>by rw[hqe];exact h
 by_cases hB:(decide (d.a∈r.aZ)==decide (d.b=1))=true
 · have e:dT r.aZ d=(r.aZ,6):=by unfold dT;rw[if_neg hA,if_pos hB]
   rw[e];refine TCall.body Tryz.func173 rfl rfl Tryz.ntmps173 rfl rfl ?_
   repeat' (first|refine qS ?_|apply sqW|refine rgK fun U V=>?_|(refine aN V ?_;clear V U)|refine aB ?_)
   refine cdW rfl tI (fun hc=>Bool.noConfusion ((yP _ hA2).symm.trans hc)) (fun hc=>?_)
   repeat' (first|refine qT ?_|apply sqW|refine rgK fun U V=>?_|(refine aN V ?_;clear V U)|refine cX ?_ ?_<;>intro hc<;>try simp only[dE] at hc|refine blK ?_|refine skW ?_|refine rtW ?_|refine kD fun U V=>?_|(refine aqN (V _ ?_);clear V U)|refine aqQ rfl rfl (fun hg=>by first|exact aa|exact pc hbs|exact af) (by exact rfl) ?_)
   all_goals first|(exfalso;rename_i g2;exact Bool.noConfusion (g2.symm.trans (hBq _ hB)))|skip
   exact⟨.inr rfl,_,[o0,o1,o2,.var (stC ws r)],⟨rfl,rfl⟩,rfl,by simp,hok r,rfl,rfl⟩
 by_cases hM:d.a∈r.aZ
 · obtain⟨he,hlt⟩:=oS hr hM;have e:dT r.aZ d=(r.aZ.eraseIdx (dF d.a r.aZ),0):=by unfold dT;rw[if_neg hA,if_neg hB,if_pos hM,he]
   rw[e];have hne:r.aZ≠[]:=by intro h;rw[h] at hM;cases hM
   rw[decide_eq_true hM] at hbs hB;have hb1:decide (d.b=1)=false:=by
    cases h:decide (d.b=1) with
    |false=>rfl
    |true=>rw[h] at hB;exact absurd rfl hB
   have wc:=TCall.val (first:=[]) (aQ:=[]) (avs:=[.sl 1 (r.aZ.map eI) .no]) (GV oM hne ho4);have wd:=TCall.val (first:=[]) (aQ:=[]) (avs:=[.sla 5 1 0 r.aZ.length 0,.int (dF d.a r.aZ),.int ((dF d.a r.aZ:Int)+1)]) (E7 oM hlt ho4);refine TCall.body Tryz.func173 rfl rfl Tryz.ntmps173 rfl rfl ?_
   repeat' (first|refine qS ?_|apply sqW|refine rgK fun U V=>?_|(refine aN V ?_;clear V U)|refine aB ?_)
   refine cdW rfl tI (fun hc=>Bool.noConfusion ((yP _ hA2).symm.trans hc)) (fun hc=>?_)
   repeat' (first|refine qT ?_|apply sqW|refine rgK fun U V=>?_|(refine aN V ?_;clear V U)|refine aoE (scT (wc) rfl rfl rfl rfl rfl nd rfl rfl nds ?_)|refine cX ?_ ?_<;>intro hc<;>try simp only[dE] at hc|refine blK ?_|refine skW ?_|refine rtW ?_|refine kD fun U V=>?_|(refine aqN (V _ ?_);clear V U)|refine aqQ rfl rfl (fun hg=>by first|exact aa|exact pc hbs|exact af) (by exact rfl) ?_)
   all_goals first|(exfalso;rw[hqe,hb1] at hc;exact absurd hc dCd)|(exfalso;exact absurd hc dCd)|skip
   rintro _ _ ⟨rfl,rfl⟩
   repeat' (first|refine qS ?_|refine aoE (scT (wd) rfl rfl rfl rfl rfl nd rfl rfl nds ?_))
   rintro _ _ ⟨rfl,rfl⟩
   repeat' (first|refine qT ?_|apply sqW|refine rgK fun U V=>?_|(refine aN V ?_;clear V U)|refine aS ?_|refine rtW ?_)
   exact⟨.inr rfl,_,[o0,o1,o2,.var (stC ws { r with aZ:=r.aZ.eraseIdx (dF d.a r.aZ) })],⟨rfl,rfl⟩,rfl,by simp,hok _,rfl,rfl⟩
 have e:dT r.aZ d=(r.aZ.take (dF d.a r.aZ)++d.a::r.aZ.drop (dF d.a r.aZ),0):=by
  unfold dT;rw[if_neg hA,if_neg hB,if_neg hM,AY hr]
 rw[e];rw[decide_eq_false hM] at hbs hB;have hb1:decide (d.b=1)=true:=by
  cases h:decide (d.b=1) with
  |true=>rfl
  |false=>rw[h] at hB;exact absurd rfl hB
 have Cx:=below_le d.a r.aZ;obtain⟨B,hBe⟩:∃B,dF d.a r.aZ=B:=⟨_,rfl⟩
 rw[hBe] at hbs Cx ⊢;obtain⟨L,hL⟩:∃L,r.aZ.take B++d.a::r.aZ.drop B=L:=⟨_,rfl⟩
 have ho5:∀k1,∀o∈[o0,o1,o2,.var (stC ws r),.var (bx d),vvO d.a k1],OkA o:=fun k1 o h=>by
  rcases zAx.1 (show o∈[o0,o1,o2,.var (stC ws r),.var (bx d)]++[vvO d.a k1] from h) with h|h
  · exact ho4 o h
  · rw[zA9.1 h];exact okV d.a k1
 by_cases hn:r.aZ=[]
 · have hB0:B=0:=by rw[hn] at Cx;simpa using Cx
   have hLe:L=[d.a]:=by rw[←hL,hn,hB0];rfl
   have wi:=TCall.val (first:=[]) (aQ:=[]) (avs:=[.sl 1 [] .fresh,.int 0,.sla 5 1 0 1 1]) (EZ d.a ho4);have wc:=fun k1=>TCall.val (first:=[]) (aQ:=[]) (avs:=[.sl 1 (([]:List Int).map eI) .no]) (Cw (ho5 k1))
   rw[hL,hLe];rw[hB0] at hbs;refine TCall.body Tryz.func173 rfl rfl Tryz.ntmps173 rfl rfl ?_
   repeat' (first|refine qS ?_|apply sqW|refine rgK fun U V=>?_|(refine aN V ?_;clear V U)|refine aB ?_)
   refine cdW rfl tI (fun hc=>Bool.noConfusion ((yP _ hA2).symm.trans hc)) (fun hc=>?_)
   repeat' (first|refine qT ?_|apply sqW|refine rgK fun U V=>?_|(refine aN V ?_;clear V U)|refine cX ?_ ?_<;>intro hc<;>try simp only[dE] at hc|refine blK ?_|refine skW ?_|refine rtW ?_|refine kD fun U V=>?_|(refine aqN (V _ ?_);clear V U)|refine aqQ rfl rfl (fun hg=>by first|exact aa|exact pc hbs|exact af) (by exact rfl) ?_)
   all_goals first|(exfalso;rw[hqe,hb1] at hc;exact absurd hc dCd)|(exfalso;exact absurd hc dCd)|skip
   refine AWP.xH 1 ?_;refine AWP.wD clsO (osS o0 o1 o2 ws r { r with aZ:=[d.a] } d []) rfl (by kernel_rfl) dKn rfl dKn (fun U V=>?_)
   repeat' (first
    |refine WQ.q rfl dKn rfl rfl (fun k1 k2 h1 h2 hg=>by(have a1:k1=0∨k1=1∨k1=2:=oM);(have a2:k2=0∨k2=1∨k2=2:=oM);(rcases a1 with rfl|rfl|rfl)<;>(rcases a2 with rfl|rfl|rfl)<;>(first|exact aa|exact af)) (by exact rfl) ?_)
   refine WQ.e2 0 1 (v:=.sl 1 [] .fresh) (d:=some 47) rfl dKn rfl ?_ ?_
   · intro aw he k1 hk0 hk1;refine scT (wc k1) rfl rfl rfl rfl rfl tI rfl (by simp only[rds,ai (he 46 dKn),←hn];rfl) ⟨(by rw[aj (he 46 dKn)];first|exact tI|exact rfl),tI⟩ ?_;rintro r s ⟨rfl,rfl⟩;exact⟨rfl,rfl⟩
   repeat' (first
    |refine WQ.q rfl dKn rfl rfl (fun k1 k2 h1 h2 hg=>by(have a1:k1=0∨k1=1∨k1=2:=oM);(have a2:k2=0∨k2=1∨k2=2:=oM);(rcases a1 with rfl|rfl|rfl)<;>(rcases a2 with rfl|rfl|rfl)<;>(first|exact aa|exact af)) (by exact rfl) ?_)
   refine WQ.e1 1 (v:=.sla 5 1 0 1 1) (d:=some 51) rfl dKn rfl ?_ ?_
   · intro aw he k2 hk2;rcases k2 with _|_|k2
     · exact EStep.lz (l:=5) (sz:=1) (es:=[eI d.a]) ab rfl rfl rfl dCd (by simp only[pH,fw,ai (he 50 dKn)];rfl) ⟨(by rw[aj (he 50 dKn)];first|exact tI|exact rfl),tI⟩ rfl ⟨rfl,rfl⟩
     · exact EStep.lz (l:=5) (sz:=1) (es:=[eI d.a]) ab rfl rfl rfl dCd (by simp only[pH,fw,ai (he 50 dKn)];rfl) ⟨(by rw[aj (he 50 dKn)];first|exact tI|exact rfl),tI⟩ rfl ⟨rfl,rfl⟩
     · omega
   repeat' (first
    |refine WQ.q rfl dKn rfl rfl (fun k1 k2 h1 h2 hg=>by(have a1:k1=0∨k1=1∨k1=2:=oM);(have a2:k2=0∨k2=1∨k2=2:=oM);(rcases a1 with rfl|rfl|rfl)<;>(rcases a2 with rfl|rfl|rfl)<;>(first|exact aa|exact af)) (by exact rfl) ?_)
   refine WQ.e2 1 1 (v:=.sl 1 [eI d.a] .no) (d:=some 52) rfl dKn rfl ?_ ?_
   · intro aw he k1 hk0 hk1;obtain rfl:k1=1:=oM;refine scT wi rfl rfl rfl rfl rfl tI rfl (by simp only[rds,ai (he 47 dKn),ai (he 48 dKn),ai (he 51 dKn)];rfl) ⟨(by rw[aj (he 47 dKn)];first|exact tI|exact rfl),(by rw[aj (he 48 dKn)];first|exact tI|exact rfl),(by rw[aj (he 51 dKn)];first|exact tI|exact rfl),tI⟩ ?_;rintro r s ⟨rfl,rfl⟩;exact⟨rfl,rfl⟩
   repeat' (first|refine WQ.qb 2 3 rfl dKn rfl rfl (fun k1 k2 g2 g4 hg=>by first|exact aa|exact af) (by exact rfl) ?_)
   refine WQ.e2 1 1 (v:=.any) (d:=none) rfl dKn rfl ?_ ?_
   · intro aw he k1 hk0 hk1;obtain rfl:k1=1:=oM;exact stW ab rfl rfl ((ai (he 55 dKn)).trans rfl) (by rw[aj (he 55 dKn)];first|exact tI|exact rfl) rfl ((ai (he 52 dKn)).trans rfl) (by rw[aj (he 52 dKn)];first|exact tI|exact rfl) rfl rfl rfl rfl rfl rfl rfl ⟨rfl,rfl⟩
   refine WQ.nil (V _ _ _ ?_);clear V U;show AWP _ _ _ _ _ [o0,o1,o2,.var (stC ws { r with aZ:=[d.a] }),.var (bx d),.dead,.dead]
   repeat' (first|refine qS ?_|apply sqW|refine rgK fun U V=>?_|(refine aN V ?_;clear V U)|refine rtW ?_)
   exact⟨.inr rfl,_,[o0,o1,o2,.var (stC ws { r with aZ:=[d.a] })],⟨rfl,rfl⟩,rfl,by simp,hok _,rfl,rfl⟩
 · have wi:=TCall.val (first:=[]) (aQ:=[]) (avs:=[.sla 6 1 0 r.aZ.length 0,.int B,.sla 5 1 0 1 1]) (G3 hn hl Cx d.a ho4);have wc:=fun k1=>TCall.val (first:=[]) (aQ:=[]) (avs:=[.sl 1 (r.aZ.map eI) .no]) (E6 oM hn (ho5 k1))
   rw[hL] at wi ⊢;refine TCall.body Tryz.func173 rfl rfl Tryz.ntmps173 rfl rfl ?_
   repeat' (first|refine qS ?_|apply sqW|refine rgK fun U V=>?_|(refine aN V ?_;clear V U)|refine aB ?_)
   refine cdW rfl tI (fun hc=>Bool.noConfusion ((yP _ hA2).symm.trans hc)) (fun hc=>?_)
   repeat' (first|refine qT ?_|apply sqW|refine rgK fun U V=>?_|(refine aN V ?_;clear V U)|refine cX ?_ ?_<;>intro hc<;>try simp only[dE] at hc|refine blK ?_|refine skW ?_|refine rtW ?_|refine kD fun U V=>?_|(refine aqN (V _ ?_);clear V U)|refine aqQ rfl rfl (fun hg=>by first|exact aa|exact pc hbs|exact af) (by exact rfl) ?_)
   all_goals first|(exfalso;rw[hqe,hb1] at hc;exact absurd hc dCd)|(exfalso;exact absurd hc dCd)|skip
   refine AWP.xH 1 ?_;refine AWP.wD clsO (osS o0 o1 o2 ws r { r with aZ:=L } d [.arr 1 0 (r.aZ.map eI)]) rfl (by kernel_rfl) dKn rfl dKn (fun U V=>?_)
   repeat' (first
    |refine WQ.q rfl dKn rfl rfl (fun k1 k2 h1 h2 hg=>by(have a1:k1=0∨k1=1∨k1=2:=oM);(have a2:k2=0∨k2=1∨k2=2:=oM);(rcases a1 with rfl|rfl|rfl)<;>(rcases a2 with rfl|rfl|rfl)<;>(first|exact aa|exact af)) (by exact rfl) ?_)
   refine WQ.e2 0 1 (v:=.sla 6 1 0 r.aZ.length 0) (d:=some 47) rfl dKn rfl ?_ ?_
   · intro aw he k1 hk0 hk1;refine scT (wc k1) rfl rfl rfl rfl rfl tI rfl (by simp only[rds,ai (he 46 dKn)];rfl) ⟨(by rw[aj (he 46 dKn)];first|exact tI|exact rfl),tI⟩ ?_;rintro r s ⟨rfl,rfl⟩;exact⟨rfl,rfl⟩
   repeat' (first
    |refine WQ.q rfl dKn rfl rfl (fun k1 k2 h1 h2 hg=>by(have a1:k1=0∨k1=1∨k1=2:=oM);(have a2:k2=0∨k2=1∨k2=2:=oM);(rcases a1 with rfl|rfl|rfl)<;>(rcases a2 with rfl|rfl|rfl)<;>(first|exact aa|exact af)) (by exact rfl) ?_)
   refine WQ.e1 1 (v:=.sla 5 1 0 1 1) (d:=some 51) rfl dKn rfl ?_ ?_
   · intro aw he k2 hk2;rcases k2 with _|_|k2
     · exact EStep.lz (l:=5) (sz:=1) (es:=[eI d.a]) ab rfl rfl rfl dCd (by simp only[pH,fw,ai (he 50 dKn)];rfl) ⟨(by rw[aj (he 50 dKn)];first|exact tI|exact rfl),tI⟩ rfl ⟨rfl,rfl⟩
     · exact EStep.lz (l:=5) (sz:=1) (es:=[eI d.a]) ab rfl rfl rfl dCd (by simp only[pH,fw,ai (he 50 dKn)];rfl) ⟨(by rw[aj (he 50 dKn)];first|exact tI|exact rfl),tI⟩ rfl ⟨rfl,rfl⟩
     · omega
   repeat' (first
    |refine WQ.q rfl dKn rfl rfl (fun k1 k2 h1 h2 hg=>by(have a1:k1=0∨k1=1∨k1=2:=oM);(have a2:k2=0∨k2=1∨k2=2:=oM);(rcases a1 with rfl|rfl|rfl)<;>(rcases a2 with rfl|rfl|rfl)<;>(first|exact aa|exact af)) (by exact rfl) ?_)
   refine WQ.e2 1 1 (v:=.sl 1 (L.map eI) .no) (d:=some 52) rfl dKn rfl ?_ ?_
   · intro aw he k1 hk0 hk1;obtain rfl:k1=1:=oM;refine scT wi rfl rfl rfl rfl rfl tI rfl (by simp only[rds,ai (he 47 dKn),ai (he 48 dKn),ai (he 51 dKn)];rfl) ⟨(by rw[aj (he 47 dKn)];first|exact tI|exact rfl),(by rw[aj (he 48 dKn)];first|exact tI|exact rfl),(by rw[aj (he 51 dKn)];first|exact tI|exact rfl),tI⟩ ?_;rintro r s ⟨rfl,rfl⟩;exact⟨rfl,rfl⟩
   repeat' (first|refine WQ.qb 2 3 rfl dKn rfl rfl (fun k1 k2 g2 g4 hg=>by first|exact aa|exact af) (by exact rfl) ?_)
   refine WQ.e2 1 1 (v:=.any) (d:=none) rfl dKn rfl ?_ ?_
   · intro aw he k1 hk0 hk1;obtain rfl:k1=1:=oM;exact stW ab rfl rfl ((ai (he 55 dKn)).trans rfl) (by rw[aj (he 55 dKn)];first|exact tI|exact rfl) rfl ((ai (he 52 dKn)).trans rfl) (by rw[aj (he 52 dKn)];first|exact tI|exact rfl) rfl rfl rfl rfl rfl rfl rfl ⟨rfl,rfl⟩
   refine WQ.nil (V _ _ _ ?_);clear V U;show AWP _ _ _ _ _ [o0,o1,o2,.var (stC ws { r with aZ:=L }),.var (bx d),.dead,.dead]
   repeat' (first|refine qS ?_|apply sqW|refine rgK fun U V=>?_|(refine aN V ?_;clear V U)|refine rtW ?_)
   exact⟨.inr rfl,_,[o0,o1,o2,.var (stC ws { r with aZ:=L })],⟨rfl,rfl⟩,rfl,by simp,hok _,rfl,rfl⟩
theorem L1 {o0 o1 o2 o7:bc} (h0:OkA o0) (h1:OkA o1) (h2:OkA o2) (h7:aD 8 o7=true) (ws:List aV) (r:Room) (hr:r.aZ.Pairwise (·<·)) (hl:r.aZ.length≤1000) (d:Dec) :
 TCall Tryz.prog 172 [.ptr 4 0,.ptr 5 0] (st8 o0 o1 o2 ws r d o7) (fun rv s=>rv=.int (dT r.aZ d).2∧s=st8 o0 o1 o2 ws { r with aZ:=(dT r.aZ d).1 } d o7):=by
 have w:=mb (Jv h0 h1 h2 ws r hr hl d) h0 h1 h2 (eP ws r) rfl (tl8 d o7);refine TCall.body Tryz.func172 rfl rfl Tryz.ntmps172 rfl rfl ?_
 repeat' (first|refine qS ?_|apply sqW|refine rgK fun U V=>?_|(refine aN V ?_;clear V U)|refine aoE (scT (w) rfl rfl rfl rfl rfl nd rfl rfl nds ?_))
 rintro _ _ ⟨rfl,rfl⟩
 repeat' (first|refine qS ?_|(refine aN V ?_;clear V U)|refine rtW ?_)
 exact⟨.inr rfl,_,st8 o0 o1 o2 ws { r with aZ:=(dT r.aZ d).1 } d o7,⟨rfl,rfl⟩,rfl,by simp,ok8 h0 h1 h2 h7 ws _ d,rfl,rfl⟩
abbrev fnO (f:FuncId) (a b:Nat):AV:=.fn (.func f) [] [.ptr a 0,.ptr b 0]
def dm:List (Int×AV):=[(1,fnO 163 4 5),(2,fnO 165 4 6),(3,fnO 168 4 6),(4,fnO 170 5 4),(5,fnO 172 4 5)]
abbrev yQ (l:List (Int×AV)):bc:=.map (aT (fun n:Int=>Value.int .i64 n) (fun v:AV=>v) l)
theorem okK:aD 8 (yQ dm)=true:=by kernel_rfl
theorem ko (k:Int):lk dm k=if k=1 then some (fnO 163 4 5) else if k=2 then some (fnO 165 4 6) else if k=3 then some (fnO 168 4 6) else if k=4 then some (fnO 170 5 4) else if k=5 then some (fnO 172 4 5) else none:=by
 by_cases h1:k=1
 · subst h1;rfl
 by_cases h2:k=2
 · subst h2;rfl
 by_cases h3:k=3
 · subst h3;rfl
 by_cases h4:k=4
 · subst h4;rfl
 by_cases h5:k=5
 · subst h5;rfl
 rw[if_neg h1,if_neg h2,if_neg h3,if_neg h4,if_neg h5];unfold dm lk;rw[if_neg (fun e=>h1 e.symm)];unfold lk;rw[if_neg (fun e=>h2 e.symm)];unfold lk;rw[if_neg (fun e=>h3 e.symm)];unfold lk;rw[if_neg (fun e=>h4 e.symm)];unfold lk;rw[if_neg (fun e=>h5 e.symm)];rfl
theorem Hc (k:Int) (h:k≠1∧k≠2∧k≠3∧k≠4∧k≠5):lk dm k=none:=by
 rw[ko,if_neg h.1,if_neg h.2.1,if_neg h.2.2.1,if_neg h.2.2.2.1,if_neg h.2.2.2.2]
abbrev k8:Int→Value:=fun n=>Value.int .i64 n
abbrev evA:AV→AV:=fun v=>v
theorem tQ {o0 o1 o2:bc} (h0:OkA o0) (h1:OkA o1) (h2:OkA o2) (ws:List aV) (r r':Room) (e:Int) (d:Dec) (f:FuncId) (a b:Nat) (hf:lk dm d.kind=some (fnO f a b))
 (w:TCall Tryz.prog f [.ptr a 0,.ptr b 0] (st8 o0 o1 o2 ws r d (yQ dm)) (fun rv s=>rv=.int e∧s=st8 o0 o1 o2 ws r' d (yQ dm))) :
 TCall Tryz.prog 112 [.ptr 3 0,.agg (bx d)] [o0,o1,o2,.var (stC ws r)] (fun rv s=>rv=.int e∧s=[o0,o1,o2,.var (stC ws r')]):=by
 have hok:∀r,([o0,o1,o2,.var (stC ws r)]:ae).all (aD 4)=true:=fun r=>by
  simp only[zB4,zBg,h0 4,h1 4,h2 4,eP ws r 4];rfl
 have wv:VCall Tryz.prog (fnO f a b) [] (st8 o0 o1 o2 ws r d (yQ dm)) (fun rv s=>rv=.int e∧s=st8 o0 o1 o2 ws r' d (yQ dm)):=TCall.val (first:=[]) (aQ:=[.ptr a 0,.ptr b 0]) (avs:=[]) w;refine TCall.body Tryz.func112 rfl rfl Tryz.ntmps112 rfl rfl ?_
 repeat' (first|refine qP ?_ (h:=fun hg=>by first|exact aa|exact pbD ab rfl rfl nds|exact PRun.ke (ek:=k8) (ev:=evA) (al:=dm) (zv:=.prim .nilFunc) hf (aL (lkG rfl)) (lkG rfl) (lkG rfl) rfl rfl (Rd.w rfl nd) (Or.inr ⟨7,rfl,rfl⟩) (Rd.w rfl nd) rfl|exact af|fail)|apply sqW|refine rgK fun U V=>?_|(refine aN V ?_;clear V U)|refine aB ?_|refine aS ?_|refine aA ?_|refine aoE (EStep.dn rfl rfl rfl rfl ?_)|refine aoE (EStep.insert (ek:=k8) (ev:=evA) (al:=dm.take 0) (aL (lkG rfl)) (lkG rfl) rfl rfl rfl (Rd.w rfl tI) rfl (Rd.w rfl tI) rfl (Rd.w rfl tI) ?_)|refine aoE (EStep.insert (ek:=k8) (ev:=evA) (al:=dm.take 1) (aL (lkG rfl)) (lkG rfl) rfl rfl rfl (Rd.w rfl tI) rfl (Rd.w rfl tI) rfl (Rd.w rfl tI) ?_)|refine aoE (EStep.insert (ek:=k8) (ev:=evA) (al:=dm.take 2) (aL (lkG rfl)) (lkG rfl) rfl rfl rfl (Rd.w rfl tI) rfl (Rd.w rfl tI) rfl (Rd.w rfl tI) ?_)|refine aoE (EStep.insert (ek:=k8) (ev:=evA) (al:=dm.take 3) (aL (lkG rfl)) (lkG rfl) rfl rfl rfl (Rd.w rfl tI) rfl (Rd.w rfl tI) rfl (Rd.w rfl tI) ?_)|refine aoE (EStep.insert (ek:=k8) (ev:=evA) (al:=dm.take 4) (aL (lkG rfl)) (lkG rfl) rfl rfl rfl (Rd.w rfl tI) rfl (Rd.w rfl tI) rfl (Rd.w rfl tI) ?_))
 repeat' (first|refine qS ?_|apply sqW|refine rgK fun U V=>?_|(refine aN V ?_;clear V U)|refine aoE (scT (wv) rfl rfl rfl rfl rfl nd rfl rfl nds ?_)|refine cX ?_ ?_<;>intro hc<;>try simp only[dE] at hc|refine skW ?_|refine rtW ?_)
 · exact Bool.noConfusion hc
 rintro _ _ ⟨rfl,rfl⟩
 repeat' (first|refine qS ?_|(refine aN V ?_;clear V U)|refine rtW ?_)
 exact⟨.inr rfl,_,[o0,o1,o2,.var (stC ws r')],⟨rfl,rfl⟩,rfl,by simp,hok _,rfl,rfl⟩
theorem L2 {o0 o1 o2:bc} (h0:OkA o0) (h1:OkA o1) (h2:OkA o2) (ws:List aV) (r:Room) (d:Dec) (hf:lk dm d.kind=none) :
 TCall Tryz.prog 112 [.ptr 3 0,.agg (bx d)] [o0,o1,o2,.var (stC ws r)] (fun rv s=>rv=.int 1∧s=[o0,o1,o2,.var (stC ws r)]):=by
 have hok:∀r,([o0,o1,o2,.var (stC ws r)]:ae).all (aD 4)=true:=fun r=>by
  simp only[zB4,zBg,h0 4,h1 4,h2 4,eP ws r 4];rfl
 refine TCall.body Tryz.func112 rfl rfl Tryz.ntmps112 rfl rfl ?_
 repeat' (first|refine qP ?_ (h:=fun hg=>by first|exact aa|exact pbD ab rfl rfl nds|exact PRun.ke (ek:=k8) (ev:=evA) (al:=dm) (zv:=.prim .nilFunc) hf (aL (lkG rfl)) (lkG rfl) (lkG rfl) rfl rfl (Rd.w rfl nd) (Or.inr ⟨7,rfl,rfl⟩) (Rd.w rfl nd) rfl|exact af|fail)|apply sqW|refine rgK fun U V=>?_|(refine aN V ?_;clear V U)|refine aB ?_|refine aS ?_|refine aA ?_|refine aoE (EStep.dn rfl rfl rfl rfl ?_)|refine aoE (EStep.insert (ek:=k8) (ev:=evA) (al:=dm.take 0) (aL (lkG rfl)) (lkG rfl) rfl rfl rfl (Rd.w rfl tI) rfl (Rd.w rfl tI) rfl (Rd.w rfl tI) ?_)|refine aoE (EStep.insert (ek:=k8) (ev:=evA) (al:=dm.take 1) (aL (lkG rfl)) (lkG rfl) rfl rfl rfl (Rd.w rfl tI) rfl (Rd.w rfl tI) rfl (Rd.w rfl tI) ?_)|refine aoE (EStep.insert (ek:=k8) (ev:=evA) (al:=dm.take 2) (aL (lkG rfl)) (lkG rfl) rfl rfl rfl (Rd.w rfl tI) rfl (Rd.w rfl tI) rfl (Rd.w rfl tI) ?_)|refine aoE (EStep.insert (ek:=k8) (ev:=evA) (al:=dm.take 3) (aL (lkG rfl)) (lkG rfl) rfl rfl rfl (Rd.w rfl tI) rfl (Rd.w rfl tI) rfl (Rd.w rfl tI) ?_)|refine aoE (EStep.insert (ek:=k8) (ev:=evA) (al:=dm.take 4) (aL (lkG rfl)) (lkG rfl) rfl rfl rfl (Rd.w rfl tI) rfl (Rd.w rfl tI) rfl (Rd.w rfl tI) ?_))
 repeat' (first|refine qS ?_|apply sqW|refine rgK fun U V=>?_|(refine aN V ?_;clear V U)|refine cX ?_ ?_<;>intro hc<;>try simp only[dE] at hc|refine skW ?_|refine rtW ?_)
 · exact⟨.inr rfl,_,[o0,o1,o2,.var (stC ws r)],⟨rfl,rfl⟩,rfl,by simp,hok _,rfl,rfl⟩
 all_goals exact Bool.noConfusion hc
end Go.Proofs.YthiaimakjmhegaaGreatDoor.De
namespace Go.Ab
theorem TCall.dummy {P:Program} {f:FuncId} {avs:List AV} {Q:AV→ae→Prop} (h:TCall P f avs [.dead] Q):TCall P f avs [] Q:=by
 refine⟨h.1,fun G w vs hs ha=>?_⟩;have hB:G.B=[]:=zAr (by simpa using hs.len);have hle:BLe G.B [GB.own none 0 0]:=by rw[hB];intro l g hg;simp at hg
 have hs':aC { G with M:=G.M,B:=[.own none 0 0] } [.dead] w:=by
  refine⟨hs.ay,hs.m0,hs.base,rfl,fun l g o h1 h2=>?_,fun l g b h1 h2=>?_,fun l l' g g' b h1 h2 h3 h4=>?_,hs.out,⟨fun p hp=>?_,hs.dfr.2⟩⟩
  · have:o=.dead:=zA9.1 (zAc h2);subst this;exact .dead _
  · have:g=.own none 0 0:=zA9.1 (zAc h1);subst this;cases h2
  · have:g=.own none 0 0:=zA9.1 (zAc h1);subst this;cases h3
  · obtain⟨k1,k2,k3,k4⟩:=hs.dfr.1 p hp;refine⟨k1,k2,fun l g hg=>?_,k4⟩;have:g=.own none 0 0:=zA9.1 (zAc hg);subst this;simp[GB.block]
 refine(h.2 _ w vs hs' ⟨ha.1,fun i c hc=>(ha.2 i c hc).mono (Mem.Le.refl _) hle⟩).mono ?_;rintro e w' ⟨v,rv,s,G',k1,k2,k3,k4,k5⟩;exact⟨v,rv,s,G',k1,k2,Gh.Le.trans (.up (Mem.Le.refl _) hle) k3,k4,k5⟩
end Go.Ab
namespace Go.Proofs.YthiaimakjmhegaaGreatDoor.De
open Go.Ab Go.Pl Pl
attribute [local irreducible] AWP AOps EStep AQ PStep PRun PCall TCall VCall
theorem Cz {o0 o1 o2:bc} (h0:OkA o0) (h1:OkA o1) (h2:OkA o2) (ws:List aV) (hne:ws≠[]) (hl:ws.length≤1000000000) (hws:∀w∈ws,WIn w) :
 TCall Tryz.prog 110 [.sl 12 (ws.map aU) .no] [o0,o1,o2] (fun rv s=>rv=.ptr 3 0∧s=[o0,o1,o2,.var (stC ws (cA ws))]):=by
 have cK:0<ws.length:=zDd.2 hne;obtain⟨w,hwk⟩:∃w,ws.getD 0 default=w:=⟨_,rfl⟩
 have hin:=hws w (hwk▸bD cK);have e:cA ws=jd w:=by unfold cA;rw[hwk]
 rw[e];have hok:([o0,o1,o2,.var (stC ws (jd w))]:ae).all (aD 4)=true:=by
  simp only[zB4,zBg,h0 4,h1 4,h2 4,eP ws (jd w) 4];rfl
 have ht:=TCall.val (first:=[]) (aQ:=[]) (avs:=[.ptr 3 0,.agg (aU w)]) (EX h0 h1 h2 ws (.int 0) (.int 0) .nils .nils (.int 0) (.int 0) (.int 0) .nils .nils w hin.form);refine TCall.body Tryz.func110 rfl rfl Tryz.ntmps110 rfl rfl ?_
 repeat' (first|refine qP ?_ (h:=fun hg=>by first|exact iX aU ws (0:Int) hwk (hb:=oM)|exact aa|exact pbD ab rfl rfl nds|fail)|apply sqW|refine rgK fun U V=>?_|(refine aN V ?_;clear V U)|refine aB ?_|refine aoE (scT (ht) rfl rfl rfl rfl rfl nd rfl rfl nds ?_))
 rintro _ _ ⟨rfl,rfl⟩
 repeat' (first|(refine aN V ?_;clear V U))
 refine AWP.ux 3 (cs':=stC ws (jd w)) rfl rfl (yN ws w) ?_
 repeat' (first|refine qS ?_|apply sqW|refine rgK fun U V=>?_|(refine aN V ?_;clear V U)|refine rtW ?_)
 exact⟨.inr rfl,_,[o0,o1,o2,.var (stC ws (jd w))],⟨rfl,rfl⟩,rfl,by simp,hok,rfl,rfl⟩
theorem CA (l:List Dec) (known time:Int):PCall Tryz.prog 111 [.sl 6 (l.map bx) .no,.int known,.int time] (.fn (.func 162) [] [.iptr [.sl 6 (l.map bx) .no],.iptr [.int known],.iptr [.int time]]):=by
 refine PCall.body Tryz.func111 rfl rfl Tryz.ntmps111 rfl rfl ?_
 repeat' (first|refine qS ?_|apply sqW|refine rgK fun U V=>?_|(refine aN V ?_;clear V U)|refine aB ?_)
 refine AWP.bj 0 rfl rfl ?_;refine AWP.bj 1 rfl rfl ?_;refine AWP.bj 2 rfl rfl ?_;refine rtW ⟨.inr rfl,?_⟩;exact fun _ _ h=>h
def bJ (known time:Int) (l:List Dec):List Dec:=l.takeWhile fun d=>!gZ known time d
def evD (d:Dec):List AV:=[.agg (bx d)]
theorem vO {known time:Int}:∀{l:List Dec} {k:Nat},k<(bJ known time l).length→(bJ known time l)[k]? = some (l.getD k default)∧gZ known time (l.getD k default)=false∧k<l.length
 |[],k,h=>by simp[bJ] at h
 | d :: l, k, h => by
   unfold bJ at h ⊢;rw[List.takeWhile_cons] at h ⊢;by_cases hd:gZ known time d=true
   · simp[hd] at h
   · have hd2:gZ known time d=false:=by simpa using hd
     simp only[hd2,zDh,if_true,zAd] at h ⊢;cases k with
     |zero=>exact⟨rfl,hd2,oM⟩
     | succ k =>
       obtain⟨h1,h2,h3⟩:=vO (known:=known) (time:=time) (l:=l) (k:=k) (by unfold bJ;omega);exact⟨h1,h2,oM⟩
theorem tS {known time:Int}:∀{l:List Dec},(bJ known time l).length<l.length→gZ known time (l.getD (bJ known time l).length default)=true
 |[],h=>by simp at h
 | d :: l, h => by
   unfold bJ at h ⊢;rw[List.takeWhile_cons] at h ⊢;by_cases hd:gZ known time d=true
   · simp only[hd,zDu,zAz,if_false];exact hd
   · have hd2:gZ known time d=false:=by simpa using hd
     simp only[hd2,zDh,if_true,zAd] at h ⊢;exact tS (known:=known) (time:=time) (l:=l) (by unfold bJ;omega)
theorem E8 (known time:Int) (l:List Dec):(bJ known time l).length≤l.length:=by
 unfold bJ;exact(List.takeWhile_sublist _).length_le
def nj (o0:bc) (ws:List aV) (r:Room):ae:=[o0,.var [.prim (.pointer none)],.var [.b false],.var (stC ws r),.var [.ptr 3 0]]
theorem CB (o0:bc) (ws:List aV) (rAt:Nat→Room) (l:List Dec) (hl:l.length≤1000000000) (known time:Int) (rc:Loop) (E:List (Nat×AV)) (Pj:Nat→Prop) :
 ox Tryz.prog 162 [] [.iptr [.sl 6 (l.map bx) .no],.iptr [.int known],.iptr [.int time]] ((bJ known time l).map evD) 6 (fun j=>nj o0 ws (rAt j)++[.loop rc E]) Pj:=by
 intro yv R hP0 hS hR hyd fI;have hy:=hyd 2;rw[lLm] at *;have hyc:∀(c:Nat) (d:Dec),(bJ known time l)[c]? = some d→Pj c→VCall Tryz.prog (.opq yv) [.agg (bx d)] ((nj o0 ws (rAt c)++[.loop rc E])++[.var (bx d)]) (fun r t=>∃t',t=t'++[.var (bx d)]∧((r=.b true∧t'=nj o0 ws (rAt (c+1))++[.loop rc E]∧Pj (c+1))∨(r=.b false∧R c t'))):=fun c d hc hp=>by
  have hlt:c<(bJ known time l).length:=by
   rcases nLg c (bJ known time l).length with h|h
   · exact h
   · rw[zA3 h] at hc;cases hc
  have hv:=VCall.frame (fI c [.agg (bx d)] (by rw[zA5,hc];rfl) hp) [.var (bx d)] (by have h9:=(hS c oM).2;exact h9) (by show aO _ 3 yv=true;exact hy) rfl (by
   rintro rv s' (⟨_,rfl,_⟩|⟨_,hh⟩)
   · exact((hS (c+1) oM).1).trans ((hS c oM).1).symm
   · exact((hR _ _ hh).1).trans ((hS c oM).1).symm)
  exact hv
 show TCall _ _ [.opq yv,.iptr [.sl 6 (l.map bx) .no],.iptr [.int known],.iptr [.int time]] (nj o0 ws (rAt 0)++[.loop rc E]) _;have hle:=E8 known time l;refine TCall.body Tryz.func162 rfl rfl Tryz.ntmps162 rfl rfl ?_
 repeat' (first|refine qT ?_|apply sqW|refine rgK fun U V=>?_|(refine aN V ?_;clear V U)|refine blK ?_)
 refine lpD (ι:=Nat) (fun k=>[(0,.opq yv),(2,.iptr [.int known]),(3,.iptr [.int time]),(7,.sl 6 (l.map bx) .no),(8,.int l.length),(9,.int k)]) (fun k=>nj o0 ws (rAt k)++[.loop rc E])
  (fun k=>k≤(bJ known time l).length∧Pj k) (fun k=>l.length - k) 6 (fun _=>rfl) 0 ⟨nZl _,hP0⟩ ⟨rfl,rfl,rfl,rfl,rfl,rfl,tI⟩ rfl (fun k _=>by
   simp only[zB4,zBg,zCf,zA0];exact⟨hy,rfl,rfl,rfl,rfl,rfl⟩) (fun k hk=>(hS k hk.1).2) ?_
 rintro k ⟨hk,hPk⟩;by_cases hlt:k<(bJ known time l).length
 · obtain⟨d,hd⟩:∃d,l.getD k default=d:=⟨_,rfl⟩
   obtain⟨h1,h2,h3⟩:=vO hlt;rw[hd] at h1 h2;have hv:=hyc k d h1 hPk;unfold gZ at h2;rw[zAg] at h2;obtain⟨h2a,h2b⟩:=h2;clear hyc fI
   repeat' (first|refine qP ?_ (h:=fun hg=>by first|exact iX bx l ((k:Nat):Int) hd (hb:=oM)|exact PRun.eq (v:=.b (decide (d.time>time))) (PRun.cZ rfl rfl nd rfl nd rfl) (congrArg AV.b h2b)|exact PRun.eq (v:=.b (decide (d.number>known))) (PRun.cZ rfl rfl nd rfl nd rfl) (congrArg AV.b h2a)|exact aa|fail)|apply sqW|refine rgK fun U V=>?_|(refine aN V ?_;clear V U)|refine aS ?_|refine aA ?_|refine aoE (EStep.gd (MF rfl rfl rfl) rfl <| scT hv rfl rfl rfl rfl rfl (by exact rfl) rfl rfl (by repeat' (first|exact tI|exact rfl|refine⟨?_,?_⟩)) ?_)|refine cX ?_ ?_<;>intro hc<;>try simp only[dE] at hc|refine blK ?_|refine exW ?_|refine skW ?_)
   all_goals (first|(exfalso;omega)|skip)
   rintro r1 t ⟨t',rfl,⟨rfl,rfl,hp⟩|⟨rfl,hh⟩⟩
   · repeat' (first|refine qS ?_|refine rgK fun U V=>?_|(refine aN V ?_;clear V U)|refine cX ?_ ?_<;>intro hc<;>try simp only[dE] at hc|refine skW ?_|refine rtW ?_)
     · exfalso;simp at hc
     · exact⟨k+1,⟨oM,hp⟩,oM,⟨rfl,rfl,rfl,rfl,rfl,rfl,tI⟩,rfl⟩
   · obtain⟨k1,k2⟩:=hR _ _ hh
     repeat' (first|refine qS ?_|refine rgK fun U V=>?_|(refine aN V ?_;clear V U)|refine cX ?_ ?_<;>intro hc<;>try simp only[dE] at hc|refine skW ?_|refine rtW ?_)
     · exact⟨.inr rfl,.tup [],t',.inr ⟨k,hlt,hh⟩,by simp,by rw[k1];exact nLr _,by rw[k1];exact k2,rfl,rfl⟩
     · exfalso;simp at hc
 · obtain hke:k=(bJ known time l).length:=oM;subst hke;clear hyc fI;have H3:=hS (bJ known time l).length (nLr _);by_cases yj:(bJ known time l).length<l.length
   · obtain⟨d,hd⟩:∃d,l.getD (bJ known time l).length default=d:=⟨_,rfl⟩
     have h2:=tS (known:=known) (time:=time) yj;rw[hd] at h2;have h2':(decide (d.number>known)||decide (d.time>time))=true:=h2
     repeat' (first|refine qP ?_ (h:=fun hg=>by first|exact iX bx l ((((bJ known time l).length:Nat)):Int) hd (hb:=oM)|exact aa|exact(Bool.noConfusion (show false=true from(congrArg (fun b:Bool=>b==false) h2').symm.trans hg):PRun _ _ _ _ (.b false))|fail)|apply sqW|refine rgK fun U V=>?_|(refine aN V ?_;clear V U)|refine aS ?_|refine aA ?_|refine cX ?_ ?_<;>intro hc<;>try simp only[dE] at hc|refine blK ?_|refine exW ?_|refine skW ?_|refine rtW ?_)
     all_goals (first|(exfalso;omega)|skip)
     · exact⟨.inr rfl,.tup [],_,.inl ⟨rfl,hPk⟩,by simp[nj],nLr _,H3.2,rfl,rfl⟩
     · exfalso;have h9:((decide (d.number>known)||decide (d.time>time))||!false)=false:=hc;rw[h2'] at h9;cases h9
   · repeat' (first|refine qT ?_|apply sqW|refine rgK fun U V=>?_|(refine aN V ?_;clear V U)|refine aS ?_|refine aA ?_|refine cX ?_ ?_<;>intro hc<;>try simp only[dE] at hc|refine blK ?_|refine exW ?_|refine skW ?_)
     all_goals (first|(exfalso;omega)|skip)
     exact⟨.inl rfl,.tup [],_,.inl ⟨rfl,hPk⟩,by simp[nj],nLr _,H3.2,rfl,rfl⟩
end Go.Proofs.YthiaimakjmhegaaGreatDoor.De
