/- Parts of the proof. No statement is proved here. -/
import Derived.Test.YtmjdoencpjpegaaGreatDoorP24
set_option linter.unusedVariables false
set_option linter.unusedSimpArgs false
set_option maxHeartbeats 16000000
set_option maxRecDepth 20000
namespace Go.Proofs.YtmjdoencpjpegaaGreatDoor.Al
open Go.Ab Go.Sort
attribute [local irreducible] AWP AOps EStep AQ PStep PRun PCall TCall VCall
def Mf (o0 o1 o2:aF) (a b:Score) (al:NL) (r:AV) (s:aa):Prop :=
 r=.sl 1 ((bK (aw a b) (a.bars.length+1) (b.bars.length+1)).map cG) .no∧∃kn,gv a b kn∧s=cM o0 o1 o2 a b al kn
theorem vp (m l n:Nat) (o:aa):(o++[aF.own l n]).all (ak m)=o.all (ak m):=by rw[zBs];simp[ak]
theorem rowE (c:Nat→Nat→Int) (i k:Nat):(bU c i (k+1)).map encI=(bU c i k).map encI++[[AV.int (T c i k)]]:=by rw[Fb,zAz];rfl
theorem tabE (c:Nat→Nat→Int) (i w:Nat):(bK c (i+1) w).map cG=(bK c i w).map cG++[[AV.sl 1 ((bU c i w).map encI) .no]]:=by rw[AY,zAz];rfl
theorem DO {o0 o1 o2:aF} (h3:nS o0 o1 o2) {a b:Score} (ha:Nts a) (hb:Nts b) {al:NL} (hg0:Grp a b al) {kn:List (cP×Int)} (hkn:gv a b kn) :
 TCall Tryz.prog 198 [.ptr 7 0] (cM o0 o1 o2 a b al kn) (Mf o0 o1 o2 a b al):=by
 have ha1:=ha.bars;have hb1:=hb.bars;refine TCall.body Tryz.func198 rfl rfl Tryz.ntmps198 rfl rfl ?_
 repeat' (first|refine qT ?_|apply sqW|refine rgK fun U V=>?_|(refine aN V ?_;clear V U)|refine blK ?_)
 refine AWP.fX (d:=3) (sz:=1) rfl ?_
 refine lpD (ι:=Nat×List (cP×Int)) (fun q=>[(0,.ptr 7 0),(3,.sl 1 ((bK (aw a b) q.1 (b.bars.length+1)).map cG) (.own 8)),(11,.int (a.bars.length+1)),(12,.int q.1)]) (fun q=>cM o0 o1 o2 a b al q.2++[.own 1 ((bK (aw a b) q.1 (b.bars.length+1)).map cG).length])
  (fun q=>q.1≤a.bars.length+1∧gv a b q.2) (fun q=>a.bars.length+1 - q.1) 9 (fun _=>rfl) (0,kn) ⟨nZl _,hkn⟩ ⟨rfl,rfl,rfl,rfl,tI⟩ rfl (fun _ _=>rfl) (fun q _=>by rw[vp];exact cT h3 dCd a b al _) ?_
 rintro⟨i,kn1⟩ ⟨hi,hk1⟩;dsimp only at hi hk1;have l1:=kM (aw a b) i (b.bars.length+1);have et:=tabE (aw a b) i (b.bars.length+1);by_cases hlt:i<a.bars.length+1
 · repeat' (first|refine qT ?_|apply sqW|refine rgK fun U V=>?_|(refine aN V ?_;clear V U)|refine cX ?_ ?_<;>intro hc<;>try simp only[dE] at hc|refine blK ?_|refine exW ?_|refine skW ?_|refine rtW ?_)
   all_goals (first|exact dd|skip)
   refine AWP.fX (d:=4) (sz:=1) rfl ?_
   refine lpD (ι:=Nat×List (cP×Int)) (fun q=>[(0,.ptr 7 0),(3,.sl 1 ((bK (aw a b) i (b.bars.length+1)).map cG) (.own 8)),(4,.sl 1 ((bU (aw a b) i q.1).map encI) (.own 9)),(11,.int (a.bars.length+1)),(12,.int i),(20,.int (b.bars.length+1)),(21,.int q.1)])
    (fun q=>cM o0 o1 o2 a b al q.2++[.own 1 ((bK (aw a b) i (b.bars.length+1)).map cG).length]++[.own 1 ((bU (aw a b) i q.1).map encI).length])
    (fun q=>q.1≤b.bars.length+1∧gv a b q.2) (fun q=>b.bars.length+1 - q.1) 10 (fun _=>rfl) (0,kn1) ⟨nZl _,hk1⟩ ⟨rfl,rfl,rfl,rfl,rfl,rfl,rfl,tI⟩ rfl (fun _ _=>rfl) (fun q _=>by rw[vp,vp];exact cT h3 dCd a b al _) ?_
   rintro⟨k,kn2⟩ ⟨hk,hk2⟩;dsimp only at hk hk2;have l2:=fG (aw a b) i k;by_cases hlk:k<b.bars.length+1
   · have er:=rowE (aw a b) i k;have hk3:gv a b (if i=0 then kn2 else if k=0 then kn2 else knI a b kn2 (i - 1) (k - 1)):=by
      split
      · exact hk2
      · split
        · exact hk2
        · exact hk2.knI _ _
     have hl0:=TCall.frame (DE h3 ha hb hg0 hk2 (show i≤a.bars.length by omega) (show k≤b.bars.length by omega) (show k<b.bars.length+1 from hlk)) ([.own 1 ((bK (aw a b) i (b.bars.length+1)).map cG).length]++[.own 1 ((bU (aw a b) i k).map encI).length]) (cT h3 (nLr _) a b al _) rfl (fun rv s h=>by rw[h.2];rfl);have hl1:=TCall.args (zt:=[.ptr 7 0,.sl 1 ((bK (aw a b) i (b.bars.length+1)).map cG) (.own 8),.sl 1 ((bU (aw a b) i k).map encI) (.own 9)]) hl0 rfl (fun j u v hu hv=>by
      match j,hu,hv with
      |0,hu,hv=>cases hu;cases hv;exact ll.refl _
      |1,hu,hv=>cases hu;cases hv;exact ll.no _ _ _
      |2,hu,hv=>cases hu;cases hv;exact ll.no _ _ _
      |j+3,hu,hv=>cases hu)
     have hv1:=TCall.val (first:=[]) (aM:=[]) (avs:=[.ptr 7 0,.sl 1 ((bK (aw a b) i (b.bars.length+1)).map cG) (.own 8),.sl 1 ((bU (aw a b) i k).map encI) (.own 9)]) hl1
     repeat' (first|refine qS ?_|apply sqW|refine rgK fun U V=>?_|(refine aN V ?_;clear V U)|refine aoE (scT (hv1) rfl rfl rfl rfl rfl nd rfl rfl nds ?_)|refine cX ?_ ?_<;>intro hc<;>try simp only[dE] at hc|refine blK ?_|refine exW ?_|refine skW ?_)
     all_goals (first|exact dd|skip)
     rintro _ _ ⟨σ',rfl,rfl,rfl⟩
     repeat' (first|refine qP ?_ (h:=fun hg=>by first|exact ae|exact pbS ab rfl rfl nds|exact ah)|refine rgK fun U V=>?_|(refine aN V ?_;clear V U)|refine aoE (apO ab rfl rfl rfl dCd (Rd.w rfl tI) rfl (Rd.w rfl tI) (.sl rfl (by first|(intro x hx;rcases zA9.1 hx with rfl;rfl)|exact pJ _)) (lkG rfl) (lkG rfl) rfl rfl (by simp only[lLm,lLa,zAc,zAi,zAg,zAx];omega) (by simp only[lLm,lLa,zAc,zAi,zAg,zAx];omega) ?_))
     refine⟨(k+1,if i=0 then kn2 else if k=0 then kn2 else knI a b kn2 (i - 1) (k - 1)),⟨hlk,hk3⟩,by show b.bars.length+1 - (k+1)<b.bars.length+1 - k;omega,⟨rfl,rfl,?_,rfl,rfl,rfl,rfl,tI⟩,?_⟩
     · show _=AV.sl 1 ((bU (aw a b) i (k+1)).map encI) (.own 9);rw[er];rfl
     · show _=cM o0 o1 o2 a b al _++[.own 1 ((bK (aw a b) i (b.bars.length+1)).map cG).length]++[.own 1 ((bU (aw a b) i (k+1)).map encI).length];rw[er];rfl
   · obtain rfl:k=b.bars.length+1:=oM
     repeat' (first|refine qP ?_ (h:=fun hg=>by first|exact ae|exact pbS ab rfl rfl nds|exact ah)|apply sqW|refine rgK fun U V=>?_|(refine aN V ?_;clear V U)|refine aoE (apO ab rfl rfl rfl dCd (Rd.w rfl tI) rfl (Rd.w rfl tI) (.sl rfl (by first|(intro x hx;rcases zA9.1 hx with rfl;rfl)|exact pJ _)) (lkG rfl) (lkG rfl) rfl rfl (by simp only[lLm,lLa,zAc,zAi,zAg,zAx];omega) (by simp only[lLm,lLa,zAc,zAi,zAg,zAx];omega) ?_)|refine cX ?_ ?_<;>intro hc<;>try simp only[dE] at hc|refine blK ?_|refine exW ?_|refine skW ?_)
     all_goals (first|exact dd|skip)
     refine⟨(i+1,kn2),⟨hlt,hk2⟩,by show a.bars.length+1 - (i+1)<a.bars.length+1 - i;omega,⟨rfl,?_,rfl,rfl,tI⟩,?_⟩
     · show _=AV.sl 1 ((bK (aw a b) (i+1) (b.bars.length+1)).map cG) (.own 8);rw[et];rfl
     · show _=cM o0 o1 o2 a b al _++[.own 1 ((bK (aw a b) (i+1) (b.bars.length+1)).map cG).length];rw[et];rfl
 · obtain rfl:i=a.bars.length+1:=oM;refine AWP.L9 3 rfl ?_
   repeat' (first|refine qT ?_|apply sqW|refine rgK fun U V=>?_|(refine aN V ?_;clear V U)|refine cX ?_ ?_<;>intro hc<;>try simp only[dE] at hc|refine blK ?_|refine exW ?_|refine skW ?_|refine rtW ?_)
   all_goals (first|exact dd|skip)
   exact⟨.inr rfl,_,cM o0 o1 o2 a b al kn1,⟨rfl,kn1,hk1,rfl⟩,rfl,nLr _,cT h3 (nLr _) a b al _,rfl,rfl⟩
end Go.Proofs.YtmjdoencpjpegaaGreatDoor.Al
namespace Go.Ab
end Go.Ab
namespace Go.Proofs.YtmjdoencpjpegaaGreatDoor.Al
open Go.Ab Go.Sort
attribute [local irreducible] AWP AOps EStep AQ PStep PRun PCall TCall VCall
def Bnd (t:List (List Int)) (i n:Nat):Prop:=∀j,j<n→0≤get2 t i j∧get2 t i j≤1000
def Rows (m:Nat) (t:List (List Int)) (i:Nat):Prop:=∀j,j<i→(t.getD j []).length=m+1∧Bnd t j (m+1)
end Go.Proofs.YtmjdoencpjpegaaGreatDoor.Al
