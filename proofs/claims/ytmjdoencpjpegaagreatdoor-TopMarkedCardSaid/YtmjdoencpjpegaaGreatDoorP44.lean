/- Parts of the proof. No statement is proved here. -/
import Derived.Test.YtmjdoencpjpegaaGreatDoorP25
import Derived.Test.YtmjdoencpjpegaaGreatDoorP34
set_option linter.unusedVariables false
set_option linter.unusedSimpArgs false
set_option maxHeartbeats 16000000
set_option maxRecDepth 20000
namespace Go.Proofs.YtmjdoencpjpegaaGreatDoor.Cy
open Go.Ab Go.ChangeShapes Go.WideShapes Al Mk
section
variable {H:Type} {enc:TypeId×Value→H} {W:World} {base b0 fuel:Nat} {held:Bool} {spare:Nat→Bool}
theorem IX {n:Nat} {cs:List Value} {y:DataW H×List MemPlace} (h:DataW.trod enc Tryz.prog W base spare held n 55 cs=some y):∃s:Score,(encS s).length=4∧(∀(j:Nat) c,(encS s)[j]? = some c→af (bR W) [] c (cs.getD j undef))∧s.uT:=by
 obtain⟨hlen,n,hff⟩:=cR KT h;rw[KU] at hlen
 match cs,hlen with
 | [u0, u1, u2, u3], _ =>
   obtain⟨y0,h0⟩:=hff 0 3 0 1 rfl;obtain⟨y1,h1⟩:=hff 1 51 1 1 rfl;obtain⟨y2,h2⟩:=hff 2 52 2 1 rfl;obtain⟨y3,h3⟩:=hff 3 53 3 1 rfl;rw[cn3] at h0;rw[L3] at h1;rw[KQ] at h2;rw[KS] at h3;obtain⟨n0,e0,_⟩:=bx lk3 h0;have g0:u0=vI n0:=by simpa using e0
   subst g0;obtain⟨a,r1,b1,_⟩:=eC (w:=W) (enc:=enc) (base:=base) (held:=held) (spare:=spare) bD (fun _=>True) (v:=u1) L2.dC Js dCd (fun n cs y h=>by
    obtain⟨e,rfl⟩:=M4 h;exact⟨e,rfl,LX e,trivial⟩) h1
   obtain⟨b,r2,b2,_⟩:=eC (w:=W) (enc:=enc) (base:=base) (held:=held) (spare:=spare) bt (fun _=>True) (v:=u2) KP.dC Fp dCd (fun n cs y h=>by
    obtain⟨e,rfl⟩:=LZ h;exact⟨e,rfl,KN e,trivial⟩) h2
   obtain⟨c,r3,b3,_⟩:=eC (w:=W) (enc:=enc) (base:=base) (held:=held) (spare:=spare) ar (fun _=>True) (v:=u3) KR.dC Fq dCd (fun n cs y h=>by
    obtain⟨e,rfl⟩:=L1 h;exact⟨e,rfl,KO e,trivial⟩) h3
   refine⟨⟨n0,a,b,c⟩,rfl,fun i c hi=>?_,⟨b1,b2,b3⟩⟩
   match i,hi with
   |0,hi=>simp[encS] at hi;subst hi;exact .prim _
   |1,hi=>simp[encS] at hi;subst hi;exact r1
   |2,hi=>simp[encS] at hi;subst hi;exact r2
   |3,hi=>simp[encS] at hi;subst hi;exact r3
   |i+4,hi=>simp[encS] at hi
end
end Go.Proofs.YtmjdoencpjpegaaGreatDoor.Cy
