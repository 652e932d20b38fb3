/- Parts of the proof. No statement is proved here. -/
import Derived.Test.YtmjdoencpjpegaaGreatDoorP40
set_option linter.unusedVariables false
set_option linter.unusedSimpArgs false
set_option maxHeartbeats 16000000
set_option maxRecDepth 20000
namespace Go.Proofs.YtmjdoencpjpegaaGreatDoor.Top
open Go.Ab Go.Jo Go.Sy Go.Sort Go.Pl Al Mk Cy De Pl
attribute [local irreducible] AWP AOps EStep AQ PStep PRun PCall TCall VCall
def eu (id v note:Int):Jo.Mark:=⟨id,2,4,⟨0,0,0⟩,v,note,0,[]⟩
def s14:Std:=⟨3,⟨2,1,1⟩,1,1,[mkE 1 7 10,mkE 2 8 11]⟩
theorem NB:(jm s14.evs).2.2=[(7,eu 7 1 10),(8,eu 8 1 11)]:=dKn
theorem ms14:bE s14.evs=[eu 7 1 10,eu 8 1 11]:=by
 have h:dG [7,8]=[7,8]:=List.mergeSort_of_pairwise dCd;unfold bE qa;rw[NB];show(dG [7,8]).map _=_;rw[h];decide +kernel
theorem fr9:ib s14 (aH w14) (rS 1 [1,2])=(([eu 7 1 10,eu 8 1 11],[]),0):=by
 unfold ib;rw[ms14];decide +kernel
theorem al14:dD (aw (rS 1 [1,2]) (rS 2 [1])) 2 1=[(0,0)]:=by unfold dD;rw[←kS _ 4 2 1 dCd];decide +kernel
theorem JI:jV (aH w14) 2 (rS 2 [1]) 1=cO [] (hZ (rS 1 [1,2]) (rS 2 [1]) [(0,0)]):=by
 unfold jV rR;rw[if_neg dCd,show bL (aH w14) 1=0 by decide +kernel,if_neg dCd,show atS (aH w14) (0:Int).toNat=rS 1 [1,2] from rfl,show(rS 1 [1,2]).bars.length=2 from rfl,show(rS 2 [1]).bars.length=1 from rfl,al14];rfl
theorem JJ:gB (aH w14) (rS 2 [1]) (eu 7 1 10)=some (eu 7 2 10):=by
 show bH (aH w14) 2 (rS 2 [1]) (eu 7 1 10)=_;unfold bH;rw[show(eu 7 1 10).version=1 from rfl,JI];decide +kernel
theorem JK:gB (aH w14) (rS 2 [1]) (eu 8 1 11)=none:=by
 show bH (aH w14) 2 (rS 2 [1]) (eu 8 1 11)=_;unfold bH;rw[show(eu 8 1 11).version=1 from rfl,JI];decide +kernel
theorem fr10:ib s14 (aH w14) (rS 2 [1])=(([eu 7 2 10],[eu 8 1 11]),0):=by
 have h1:eo (aH w14) (rS 2 [1]) [eu 7 1 10,eu 8 1 11]=[eu 7 2 10]:=by
  unfold eo dF;rw[zE7,JJ,zE7,JK];rfl
 have h2:dR (gB (aH w14) (rS 2 [1])) [eu 7 1 10,eu 8 1 11]=[eu 8 1 11]:=by
  unfold dR;rw[List.filter_cons,JJ,List.filter_cons,JK];rfl
 unfold ib;rw[ms14];unfold bM eX;rw[h1,h2];decide +kernel
theorem e9:dS w14 [d14] s14 9=0:=dKn
theorem e10:dS w14 [d14] s14 10=0:=dKn
theorem JL:Txt s14.evs:=Txt.of dKn
theorem JM:∀w∈w14,dt w.score=true:=dKn
theorem Au {t:Int} {v:Int} {j:Nat} {sc:Score} (h0:dS w14 [d14] s14 t=0) (hv:(atR w14 [d14] s14.known t).1.version=v) (hj:j<2) (hs:atS (aH w14) j=sc) (hsv:sc.version=v) {k:Nat} {sc':Score} (G:GF (atR w14 [d14] s14.known t).1 s14 (aH w14) k sc'):sc'=sc:=by
 have h1:=G.fv;rw[hv,←hsv,←hs,kT G.mf (by simpa using hj)] at h1;have h2:j=k:=oM;rw[←G.at_,←h2,hs]
theorem Bw:PCall Tryz.prog 7 [.sl 12 (w14.map bb) .no,.sl 6 ([d14].map bu) .no,.agg (fH s14),.int 9] (rV (([eu 7 1 10,eu 8 1 11],[]),0)):=by
 obtain⟨k,sc,G,_⟩:=ua e9 JM;have:=Au (v:=1) (j:=0) (sc:=rS 1 [1,2]) e9 dKn dCd rfl rfl G;have h:=rZ w14 [d14] s14 9 dCd vK dCd JL dCd e9 G;rw[this,fr9] at h;exact h
theorem Av:PCall Tryz.prog 7 [.sl 12 (w14.map bb) .no,.sl 6 ([d14].map bu) .no,.agg (fH s14),.int 10] (rV (([eu 7 2 10],[eu 8 1 11]),0)):=by
 obtain⟨k,sc,G,_⟩:=ua e10 JM;have:=Au (v:=2) (j:=1) (sc:=rS 2 [1]) e10 dKn dCd rfl rfl G;have h:=rZ w14 [d14] s14 10 dCd vK dCd JL dCd e10 G;rw[this,fr10] at h;exact h
theorem xR:PCall Tryz.prog 4 [] (.b true):=by
 have h1:=Ap;have h2:=Br;have h3:=s8 1 7 10;have h4:=s8 2 8 11;have h5:=Bw;have h6:=Av;refine PCall.bO ab Tryz.func4 rfl rfl Tryz.ntmps4 rfl ?_
 repeat' (first|refine qP ?_ (h:=fun hg=>by first|exact ae|exact pc h1|exact pc h2|exact pc h3|exact pc h4|exact pc h5|exact pc h6|exact pbD ab rfl rfl nds|exact pbS ab rfl rfl nds|exact piW (l:=[eu 7 2 10]) (f:=aJ) ab rfl rfl nd rfl nd rfl rfl ⟨by decide,by decide⟩|exact piW (l:=[eu 8 1 11]) (f:=aJ) ab rfl rfl nd rfl nd rfl rfl ⟨by decide,by decide⟩|exact ah)|apply sqW|refine rgK fun U V=>?_|(refine aN V ?_;clear V U)|refine aS ?_|refine aA ?_|refine rtW ?_)
 exact⟨.inr rfl,_,rfl,Ent.b rfl⟩
end Go.Proofs.YtmjdoencpjpegaaGreatDoor.Top
