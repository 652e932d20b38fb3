/- Parts of the proof. No statement is proved here. -/
import Derived.Test.YthiaimakjmhegaaGreatDoorP32
set_option linter.unusedVariables false
set_option linter.unusedSimpArgs false
set_option maxHeartbeats 16000000
set_option maxRecDepth 20000
namespace Go.Proofs.YthiaimakjmhegaaGreatDoor.Top
open Go.Ab Go.Pl De Pl
attribute [local irreducible] AWP AOps EStep AQ PStep PRun PCall TCall VCall
structure Lib where
 ax:List aV
 eds:List Ed.ah
 dU:List kM
 eQ:List eo
def bq (L:Lib):List AV:=kN L.ax L.eds L.dU (.sl 5 (L.eQ.map bS) .no)
structure fW (L:Lib):Prop where
 wl:L.ax.length≤1000000000
 ws:∀w∈L.ax,WIn w
 ts:∀w∈L.ax,w.gK.length≤1000000000
 el:L.eds.length≤1000000000
 es:∀e∈L.eds,Ed.Wf e
 sl:L.dU.length≤1000000000
 ll:L.eQ.length≤1000000000
theorem vS (ws:List aV) (hl:ws.length≤1000000000) (hws:∀w∈ws,WIn w) (ds:List Dec) (hd:ds.length≤1000000000):PCall Tryz.prog 40 [.sl 12 (ws.map aU) .no,.sl 6 (ds.map bx) .no] (.b (jr ws ds)):=by
 have h:=vP ws hl hws ds hd;refine PCall.body Tryz.func40 rfl rfl Tryz.ntmps40 rfl rfl ?_
 repeat' (first|refine qP ?_ (h:=fun hg=>by first|exact aa|exact pc h|fail)|apply sqW|refine rgK fun U V=>?_|(refine aN V ?_;clear V U)|refine rtW ?_)
 exact⟨.inr rfl,Ent.b rfl⟩
def c1B (L:Lib):Bool:=jr L.ax []
def c2B (L:Lib):Bool:=(List.range L.ax.length).all fun i=>wkB (L.ax.getD i default)
def c3B (L:Lib):Bool:=decide ((L.eds.length:Int)≤12)&&(List.range L.eds.length).all (iY L.ax L.eds)
def c4B (L:Lib):Bool:=decide ((L.dU.length:Int)≤5000)&&(List.range L.dU.length).all (tU L.ax L.eds L.dU)
def CN (L:Lib) (i:Nat):Bool:=decide ((L.eQ.getD i default).dq≤(L.dU.length:Int))
def c5B (L:Lib):Bool:=(List.range L.eQ.length).all (CN L)
def c6B (L:Lib):Bool:=nK L.eQ
theorem Jx (L:Lib) (h:fW L):PCall Tryz.prog 90 [.iptr (bq L)] (.b (c1B L)):=by
 have hd:=PCall.H2 [.sl 12 (L.ax.map aU) .no] [] (vS L.ax h.wl h.ws [] (nZl _));refine PCall.body Tryz.func90 rfl rfl Tryz.ntmps90 rfl rfl ?_
 repeat' (first|refine qP ?_ (h:=fun hg=>by first|exact aa|exact pc hd|fail)|apply sqW|refine rgK fun U V=>?_|(refine aN V ?_;clear V U)|refine rtW ?_)
 exact⟨.inr rfl,Ent.b rfl⟩
theorem Hj (L:Lib) (h:fW L) (i:Nat) (hi:i<L.ax.length):PCall Tryz.prog 93 [.int (i:Nat),.iptr (bq L)] (.b (wkB (L.ax.getD i default))):=by
 obtain⟨w,hw⟩:∃w,L.ax.getD i default=w:=⟨_,rfl⟩
 have hm:w∈L.ax:=hw▸bD hi;have hk:=zZ w (h.ws w hm) (h.ts w hm);rw[hw];refine PCall.body Tryz.func93 rfl rfl Tryz.ntmps93 rfl rfl ?_
 repeat' (first|refine qP ?_ (h:=fun hg=>by first|exact iX aU L.ax ((i:Nat):Int) hw (hb:=oM)|exact aa|exact pc hk|fail)|apply sqW|refine rgK fun U V=>?_|(refine aN V ?_;clear V U)|refine rtW ?_)
 exact⟨.inr rfl,Ent.b rfl⟩
theorem Jy (L:Lib) (h:fW L):PCall Tryz.prog 91 [.iptr (bq L)] (.b (c2B L)):=by
 have ha:=mL L.ax.length (.fn (.func 93) [] [.iptr (bq L)]) (fun i=>wkB (L.ax.getD i default)) (fun i hi _=>⟨_,[],_,rfl,Hj L h i hi⟩) h.wl;refine PCall.body Tryz.func91 rfl rfl Tryz.ntmps91 rfl rfl ?_
 repeat' (first|refine qP ?_ (h:=fun hg=>by first|exact aa|exact pc ha|exact af)|apply sqW|refine rgK fun U V=>?_|(refine aN V ?_;clear V U)|refine rtW ?_)
 exact⟨.inr rfl,Ent.b rfl⟩
theorem Jz (L:Lib) (h:fW L):PCall Tryz.prog 95 [.iptr (bq L),.iptr (bq L)] (.b (c3B L)):=by
 have ha:=mL L.eds.length (.fn (.func 96) [.agg (bq L)] []) (iY L.ax L.eds) (fun i hi _=>⟨_,[.agg (bq L)],_,rfl,Fc L.ax L.eds L.dU _ h.wl h.ws h.el h.es i hi⟩) h.el;refine PCall.body Tryz.func95 rfl rfl Tryz.ntmps95 rfl rfl ?_
 repeat' (first|refine qP ?_ (h:=fun hg=>by first|exact aa|exact pc ha|exact af)|apply sqW|refine rgK fun U V=>?_|(refine aN V ?_;clear V U)|refine rtW ?_)
 exact⟨.inr rfl,Ent.b rfl⟩
theorem JA (L:Lib) (h:fW L) (h3:c3B L=true):PCall Tryz.prog 97 [.iptr (bq L),.iptr (bq L)] (.b (c4B L)):=by
 have hg:∀j,j<L.eds.length→iY L.ax L.eds j=true:=fun j hj=>by
  unfold c3B at h3;rw[zA0] at h3;exact zA4.1 h3.2 j (zAs.2 hj)
 have ha:=mL L.dU.length (.fn (.func 98) [.agg (bq L)] []) (tU L.ax L.eds L.dU) (fun i hi _=>⟨_,[.agg (bq L)],_,rfl,Fe L.ax L.eds L.dU _ h.wl h.ws h.el h.sl hg i hi⟩) h.sl;refine PCall.body Tryz.func97 rfl rfl Tryz.ntmps97 rfl rfl ?_
 repeat' (first|refine qP ?_ (h:=fun hg=>by first|exact aa|exact pc ha|exact af)|apply sqW|refine rgK fun U V=>?_|(refine aN V ?_;clear V U)|refine rtW ?_)
 exact⟨.inr rfl,Ent.b rfl⟩
theorem Hk (L:Lib) (i:Nat) (hi:i<L.eQ.length) (hl:L.eQ.length≤1000000000):PCall Tryz.prog 100 [.int (i:Nat),.iptr (bq L)] (.b (CN L i)):=by
 obtain⟨x,hx⟩:∃x,L.eQ.getD i default=x:=⟨_,rfl⟩
 unfold CN;rw[hx];refine PCall.body Tryz.func100 rfl rfl Tryz.ntmps100 rfl rfl ?_
 repeat' (first|refine qS ?_|apply sqW|refine rgK fun U V=>?_|(refine aN V ?_;clear V U)|refine rtW ?_|refine kD fun U V=>?_|(refine aqN (V _ ?_);clear V U)|refine aqQ rfl rfl (fun hg=>by first|exact iX bS L.eQ ((i:Nat):Int) hx (hb:=oM)|exact aa|exact af) (by exact rfl) ?_)
 exact⟨.inr rfl,Ent.b rfl⟩
theorem JB (L:Lib) (h:fW L):PCall Tryz.prog 99 [.iptr (bq L)] (.b (c5B L)):=by
 have ha:=mL L.eQ.length (.fn (.func 100) [] [.iptr (bq L)]) (CN L) (fun i hi _=>⟨_,[],_,rfl,Hk L i hi h.ll⟩) h.ll;refine PCall.body Tryz.func99 rfl rfl Tryz.ntmps99 rfl rfl ?_
 repeat' (first|refine qP ?_ (h:=fun hg=>by first|exact aa|exact pc ha|exact af)|apply sqW|refine rgK fun U V=>?_|(refine aN V ?_;clear V U)|refine rtW ?_)
 exact⟨.inr rfl,Ent.b rfl⟩
theorem JC (L:Lib) (h:fW L):PCall Tryz.prog 101 [.iptr (bq L)] (.b (c6B L)):=by
 have hl:=B6 L.eQ h.ll;refine PCall.body Tryz.func101 rfl rfl Tryz.ntmps101 rfl rfl ?_
 repeat' (first|refine qP ?_ (h:=fun hg=>by first|exact aa|exact pc hl|fail)|apply sqW|refine rgK fun U V=>?_|(refine aN V ?_;clear V U)|refine rtW ?_)
 exact⟨.inr rfl,Ent.b rfl⟩
def CO (L:Lib):List Bk:=[⟨90,[bq L],c1B L⟩,⟨91,[bq L],c2B L⟩,⟨95,[bq L,bq L],c3B L⟩,⟨97,[bq L,bq L],c4B L⟩,⟨99,[bq L],c5B L⟩,⟨101,[bq L],c6B L⟩]
def jW (L:Lib):Bool:=c1B L&&c2B L&&c3B L&&c4B L&&c5B L&&c6B L
theorem JD (L:Lib):(!decide (az uM (CO L)≥0))=jW L:=by
 rw[Ed.gq];simp[CO,uM,jW,zDw]
theorem Fh (L:Lib) (h:fW L):PCall Tryz.prog 39 [.agg (bq L)] (.b (jW L)):=by
 have ha:=CE (CO L) (by show 6≤1000000000;decide) (fun k hk hz=>by
  match k,hk with
  |0,_=>exact Jx L h
  |1,_=>exact Jy L h
  |2,_=>exact Jz L h
  |3,_=>exact JA L h (hz 2 dCd)
  |4,_=>exact JB L h
  |5,_=>exact JC L h
  |_+6,hk=>exact absurd hk (by simp[CO]))
 rw[←JD];refine PCall.body Tryz.func39 rfl rfl Tryz.ntmps39 rfl rfl ?_
 repeat refine sqW ?_
 refine rgK fun U V=>?_
 repeat' (first|refine qS ?_|refine aB ?_)
 refine aoN (V _ _ ?_);clear V U
 repeat refine sqW ?_
 refine rgK fun U V=>?_
 repeat' (first|refine qP ?_ (h:=fun hg=>by first|exact aa|exact pbD ab rfl rfl nds|fail)|refine aS ?_|refine aA ?_)
 refine aoN (V _ _ ?_);clear V U;refine AWP.cY [(1,.ptr 0 0),(3,.ptr 1 0)] ⟨rfl,rfl,tI⟩ ?_;refine AWP.bj 0 rfl rfl ?_;refine AWP.bj 1 rfl rfl ?_;refine AWP.cY [(1,.iptr (bq L)),(3,.iptr (bq L))] ⟨rfl,rfl,tI⟩ ?_
 repeat' (first|refine qP ?_ (h:=fun hg=>by first|exact aa|exact pbS ab rfl rfl nds|exact pc ha|fail)|apply sqW|refine rgK fun U V=>?_|(refine aN V ?_;clear V U)|refine rtW ?_)
 exact⟨.inr rfl,Ent.b rfl⟩
end Go.Proofs.YthiaimakjmhegaaGreatDoor.Top
