/- Parts of the proof. No statement is proved here. -/
import Derived.Lib.SlicesS
import Derived.Test.YthiaimakjmhegaaGreatDoorP8
set_option linter.unusedVariables false
set_option linter.unusedSimpArgs false
set_option maxHeartbeats 16000000
set_option maxRecDepth 20000
namespace Go.Proofs.YthiaimakjmhegaaGreatDoor.Ed
open Go.Ab
attribute [local irreducible] AWP AOps EStep AQ PStep PRun PCall TCall VCall
theorem gO (a b c:Int):PCall Tryz.prog 127 [.int a,.int b,.int c] (.b (inB a b c)):=by
 refine PCall.body Tryz.func127 rfl rfl Tryz.ntmps127 rfl rfl ?_
 repeat' (first|refine qS ?_|apply sqW|refine rgK fun U V=>?_|(refine aN V ?_;clear V U)|refine rtW ?_)
 exact⟨.inr rfl,fun _ _ h=>h⟩
def dR (c:Int):Bool:=(decide (c<65)||decide (c>90))&&(decide (c<48)||decide (c>57))
theorem BC (c:Int):PCall Tryz.prog 210 [.prim (.int .i32 c)] (.b (dR c)):=by
 refine PCall.body Tryz.func210 rfl rfl Tryz.ntmps210 rfl rfl ?_
 repeat' (first|refine qS ?_|apply sqW|refine rgK fun U V=>?_|(refine aN V ?_;clear V U)|refine rtW ?_)
 exact⟨.inr rfl,fun _ _ h=>h⟩
theorem BD (s:ByteArray) (fv:AV) (p:Int→Bool) (lv:Bool) (hf:∀c:Nat,bF Tryz.prog fv [.prim (.int .i32 c)] (.b (p c))) (hp:∀c:Nat,128≤c→p c=lv) (hs:s.size≤9223372036854775807) :
 PCall Tryz.prog 147 [.str s,fv,.b lv] (.int (az (fun b=>p (b.toNat:Int)==lv) s.data.toList)):=by
 refine PCall.di [1] Tryz.func147 rfl rfl Tryz.ntmps147 rfl rfl ?_
 repeat' (first|refine qS ?_|apply sqW|refine rgK fun U V=>?_|(refine aN V ?_;clear V U)|refine aoE (EStep.Il ab rfl rfl rfl rfl rfl tI rfl ?_)|refine blK ?_)
 have hsz:s.data.toList.length=s.size:=sMp;refine lpW (ι:=Nat) (fun k=>[(1,.ext fv),(2,.b lv),(10,.ptr 0 0)]) (fun k=>[.siter s k]) (fun k=>k≤s.size∧∀j,j<k→(p ((s.data.toList.getD j default).toNat:Int)==lv)=false) (fun k=>s.size - k) 0 ⟨nZl _,fun j h=>absurd h oM⟩ ⟨rfl,rfl,rfl,tI⟩ rfl ?_;rintro k ⟨hk,au⟩;by_cases hlt:k<s.size
 · by_cases hlow:(s.data.toList.getD k 0).toNat<128
   · have hd:=J1 hlt hlow
     repeat' (first|refine qP ?_ (h:=fun hg=>by first|exact aa|exact PRun.fx (hf _) rfl rfl nd rfl nds|exact af)|apply sqW|refine rgK fun U V=>?_|(refine aN V ?_;clear V U)|refine aoE (EStep.HF hd hlt rfl rfl rfl rfl rfl tI rfl ?_)|refine cX ?_ ?_<;>intro hc<;>try simp only[dE] at hc|refine blK ?_|refine exW ?_|refine skW ?_|refine rtW ?_)
     · refine⟨.inr rfl,?_⟩;rw[show az (fun b:UInt8=>p (b.toNat:Int)==lv) s.data.toList=k from bP oM hc au];exact fun _ _ h=>h
     · exact⟨k+1,⟨oM,fun j hj=>aH au hc hj⟩,oM,⟨rfl,rfl,rfl,tI⟩,rfl⟩
     · exact absurd hc sMp
   · have hh:=Is hlt oM;obtain⟨c,wd,hd⟩:∃c wd,Utf8.decode s k=(c,wd):=⟨_,_,rfl⟩
     rw[hd] at hh;have hpc:=hp c hh;have hpk:=hp _ (Nat.le_of_not_lt hlow)
     repeat' (first|refine qP ?_ (h:=fun hg=>by first|exact aa|exact PRun.fx (hf _) rfl rfl nd rfl nds|exact af)|apply sqW|refine rgK fun U V=>?_|(refine aN V ?_;clear V U)|refine aoE (EStep.HF hd hlt rfl rfl rfl rfl rfl tI rfl ?_)|refine cX ?_ ?_<;>intro hc<;>try simp only[dE] at hc|refine blK ?_|refine exW ?_|refine skW ?_|refine rtW ?_)
     · refine⟨.inr rfl,?_⟩;rw[show az (fun b:UInt8=>p (b.toNat:Int)==lv) s.data.toList=k from bP oM (by show(p ((s.data.toList.getD k 0).toNat:Int)==lv)=true;rw[hpk];simp) au];exact fun _ _ h=>h
     · rw[hpc] at hc;simp at hc
     · exact absurd hc sMp
 · repeat' (first|refine qP ?_ (h:=fun hg=>by first|exact aa|exact PRun.Im rfl rfl nd rfl hlt|exact af)|apply sqW|refine rgK fun U V=>?_|(refine aN V ?_;clear V U)|refine cX ?_ ?_<;>intro hc<;>try simp only[dE] at hc|refine blK ?_|refine exW ?_|refine skW ?_|refine rtW ?_)
   · exact absurd hc sMp
   · refine⟨.inr rfl,?_⟩;rw[show az (fun b:UInt8=>p (b.toNat:Int)==lv) s.data.toList = -1 from bX fun j hj=>au j oM];exact fun _ _ h=>h
theorem kG (s:ByteArray) (fv:AV) (p:Int→Bool) (hf:∀c:Nat,bF Tryz.prog fv [.prim (.int .i32 c)] (.b (p c))) (hp:∀c:Nat,128≤c→p c=true) (hs:s.size≤9223372036854775807) :
 PCall Tryz.prog 88 [.str s,fv] (.int (az (fun b=>p (b.toNat:Int)==true) s.data.toList)):=by
 refine PCall.di [1] Tryz.func88 rfl rfl Tryz.ntmps88 rfl rfl ?_
 repeat' (first|refine qP ?_ (h:=fun hg=>by first|exact aa|exact pc (BD s fv p true hf hp hs)|exact af)|apply sqW|refine rgK fun U V=>?_|(refine aN V ?_;clear V U)|refine rtW ?_)
 exact⟨.inr rfl,fun _ _ h=>h⟩
theorem lx (c:Nat) (hc:128≤c):dR c=true:=by
 simp[dR];omega
theorem s9 (c:Nat):bF Tryz.prog (.fn (.func 210) [] []) [.prim (.int .i32 c)] (.b (dR c)):=⟨210,[],[],rfl,BC c⟩
theorem lW {a b:ByteArray} (h:(a.toList==b.toList)=true):a=b:=(Lib.bytes_beq_iff a b).1 h
theorem DQ (s:ByteArray):eB s=true↔1≤s.size∧s.size≤12∧∀j,j<s.size→nameAt s j=true:=by
 simp[eB,and_assoc]
theorem vt (s:ByteArray) (h0:0<s.size):(!s.toList==ByteArray.toList ⟨#[]⟩&&decide ((s.size:Int)≤12)&&decide (az (fun b:UInt8=>dR b.toNat==true) s.data.toList<0)&&decide (((s.data.toList.getD 0 0).toNat:Int)≥65))=eB s:=by
 have e0:(s.toList==ByteArray.toList ⟨#[]⟩)=false:=by
  cases h:(s.toList==ByteArray.toList ⟨#[]⟩) with
  |false=>rfl
  | true =>
    have h1:s=⟨#[]⟩:=lW h;subst h1;exact absurd h0 dCd
 have hl:s.data.toList.length=s.size:=sMp;rw[e0,zAi,DQ];simp only[zDh,zAy,zA0,dEt];constructor
 · rintro⟨⟨h1,h2⟩,h3⟩;refine⟨h0,oM,fun j hj=>?_⟩;cases hn:nameAt s j with
   |true=>rfl
   | false =>
     exfalso;have hex:∃x∈s.data.toList,dR x.toNat=true∨(x.toNat:Int)<0:=by
      refine⟨s.data.toList.getD j 0,?_,?_⟩
      · have:j<s.data.toList.length:=oM;simp only[List.getD,zA1 this,zCv];exact lGm this
      · left;by_cases hj0:j=0
        · subst hj0;unfold nameAt at hn;generalize (s.data.toList.getD 0 0).toNat=x at hn h3 ⊢;simp[dR] at hn ⊢;omega
        · unfold nameAt at hn;generalize (s.data.toList.getD j 0).toNat=x at hn ⊢;simp[dR,hj0] at hn ⊢;omega
     obtain⟨x,hx,h4|h4⟩:=hex
     · unfold az at h2;cases hf:s.data.toList.findIdx? (fun b:UInt8=>dR b.toNat==true) with
       | none =>
         rw[List.findIdx?_eq_none_iff] at hf;have:=hf x hx;rw[h4] at this;simp at this
       |some i=>rw[hf] at h2;simp at h2;omega
     · omega
 · rintro⟨_,h2,h3⟩;have a0:=h3 0 h0;refine⟨⟨oM,?_⟩,by unfold nameAt at a0;generalize (s.data.toList.getD 0 0).toNat=x at a0 ⊢;simp at a0;omega⟩;have:az (fun b:UInt8=>dR b.toNat==true) s.data.toList = -1:=bX fun j hj=>by
    have:=h3 j oM;have e:s.data.toList.getD j default=s.data.toList.getD j 0:=rfl;rw[e];by_cases hj0:j=0
    · subst hj0;unfold nameAt at this;generalize (s.data.toList.getD 0 0).toNat=x at this ⊢;simp[dR] at this ⊢;omega
    · unfold nameAt at this;generalize (s.data.toList.getD j 0).toNat=x at this ⊢;simp[dR,hj0] at this ⊢;omega
   omega
theorem ra (s:ByteArray) (hs:s.size≤9223372036854775807):PCall Tryz.prog 143 [.str s] (.b (eB s)):=by
 by_cases h0:0<s.size
 · refine PCall.body Tryz.func143 rfl rfl Tryz.ntmps143 rfl rfl ?_
   repeat' (first|refine qP ?_ (h:=fun hg=>by first|exact aa|exact pcW (kG s (.fn (.func 210) [] []) dR s9 lx hs) rfl rfl nd rfl nds|exact af)|apply sqW|refine rgK fun U V=>?_|(refine aN V ?_;clear V U)|refine rtW ?_)
   refine⟨.inr rfl,?_⟩;rw[←vt s h0];exact fun _ _ h=>h
 · have e:s=⟨#[]⟩:=by
    obtain⟨d⟩:=s;have:d.size=0:=by
     have:¬0<d.size:=h0;omega
    rw[zC1 this]
   subst e;refine PCall.body Tryz.func143 rfl rfl Tryz.ntmps143 rfl rfl ?_
   repeat' (first|refine qP ?_ (h:=fun hg=>by first|exact aa|exact pcW (kG _ (.fn (.func 210) [] []) dR s9 lx hs) rfl rfl nd rfl nds|exact af)|apply sqW|refine rgK fun U V=>?_|(refine aN V ?_;clear V U)|refine rtW ?_)
   refine⟨.inr rfl,?_⟩;show Ent (AV.b ((!ByteArray.toList ⟨#[]⟩==ByteArray.toList ⟨#[]⟩)&&_&&_&&_)) _;rw[show(!ByteArray.toList ⟨#[]⟩==ByteArray.toList ⟨#[]⟩)=false by simp,zBu,zBu,zBu,show eB ⟨#[]⟩=false by decide];exact fun _ _ h=>h
def ca (l:List Letter):List (ByteArray×Int):=l.foldl (fun al x=>ins al x.name x.pos) []
theorem nF (l:List Letter) (k:Nat) (h:k<l.length):ca (l.take (k+1))=ins (ca (l.take k)) (l.getD k default).name (l.getD k default).pos:=by
 unfold ca;rw[zBn h,zCl,bb h];rfl
abbrev ekS (s:ByteArray):Value:=.string s
theorem xT {κ:Type} (m:Nat) (ek:κ→Value) (l:List (κ×Int)):aD m (.map (aT ek AV.int l))=true:=by
 simp[aD,aT,aO]
theorem pT (e:ah) (hl:e.letters.length≤9223372036854775807):PCall Tryz.prog 144 [.agg (aF e)] (.imap (aT ekS AV.int (ca e.letters))):=by
 refine PCall.body Tryz.func144 rfl rfl Tryz.ntmps144 rfl rfl ?_
 repeat' (first|refine qT ?_|apply sqW|refine rgK fun U V=>?_|(refine aN V ?_;clear V U)|refine aB ?_|refine aoE (EStep.Dg ab rfl rfl rfl rfl rfl tI rfl ?_)|refine blK ?_)
 refine lpD (ι:=Nat) (fun k=>[(1,.ptr 0 0),(3,.map 1),(11,.sl 2 (e.letters.map dL) .no),(12,.int e.letters.length),(13,.int k)]) (fun k=>[.var (aF e),.map (aT ekS AV.int (ca (e.letters.take k)))])
  (fun k=>k≤e.letters.length) (fun k=>e.letters.length - k) 2 (fun _=>rfl) 0 (nZl _) ⟨rfl,rfl,rfl,rfl,rfl,tI⟩ rfl (fun _ _=>rfl) (fun k _=>by simp[xT];rfl) ?_
 intro k hk;by_cases hlt:k<e.letters.length
 · repeat' (first|refine qT ?_|apply sqW|refine rgK fun U V=>?_|(refine aN V ?_;clear V U)|refine aS ?_|refine aA ?_|refine aoE (EStep.fu (ek:=ekS) (ev:=AV.int) (sK (lkG rfl)) (lkG rfl) rfl rfl rfl (Rd.w rfl tI) rfl (Rd.w rfl tI) rfl (Rd.w rfl tI) ?_)|refine cX ?_ ?_<;>intro hc<;>try simp only[dE] at hc|refine blK ?_|refine exW ?_|refine skW ?_|refine rtW ?_)
   · exact⟨k+1,oM,oM,⟨rfl,rfl,rfl,rfl,rfl,tI⟩,by rw[nF _ _ hlt];rfl⟩
   · exfalso;omega
 · repeat' (first|refine qT ?_|apply sqW|refine rgK fun U V=>?_|(refine aN V ?_;clear V U)|refine aS ?_|refine aA ?_|refine cX ?_ ?_<;>intro hc<;>try simp only[dE] at hc|refine blK ?_|refine exW ?_|refine skW ?_)
   · exfalso;omega
   · refine AWP.mj (ek:=ekS) (ev:=AV.int) (l:=1) rfl uU ?_;refine rtW ⟨.inr rfl,?_⟩;rw[show e.letters.take k=e.letters from zAh oM];exact fun _ _ h=>h
theorem dD {α:Type} [Inhabited α] {l:List α} {k:Nat} (h:k<l.length):l.getD k default∈l:=by
 rw[bb h];exact lGm h
theorem pU (l:List cN) (fv:AV) (p:cN→Bool) (hp:∀x∈l,bF Tryz.prog fv [.agg (bz x)] (.b (p x))) (hl:l.length≤9223372036854775807) :
 PCall Tryz.prog 128 [.sl 3 (l.map bz) .no,fv] (.int (az p l)):=by
 refine PCall.di [1] Tryz.func128 rfl rfl Tryz.ntmps128 rfl rfl ?_
 repeat' (first|refine qT ?_|apply sqW|refine rgK fun U V=>?_|(refine aN V ?_;clear V U)|refine blK ?_)
 refine lpW (ι:=Nat) (fun k=>[(0,.sl 3 (l.map bz) .no),(1,.ext fv),(7,.int l.length),(8,.int k)]) (fun _=>[]) (fun k=>k≤l.length∧∀j,j<k→p (l.getD j default)=false) (fun k=>l.length - k) 0 ⟨nZl _,fun j h=>absurd h oM⟩ ⟨rfl,rfl,rfl,rfl,tI⟩ rfl ?_;rintro k ⟨hk,au⟩;by_cases hlt:k<l.length
 · repeat' (first|refine qP ?_ (h:=fun hg=>by first|exact aa|exact PRun.fx (hp _ (dD hlt)) rfl rfl nd rfl nds|exact af)|apply sqW|refine rgK fun U V=>?_|(refine aN V ?_;clear V U)|refine cX ?_ ?_<;>intro hc<;>try simp only[dE] at hc|refine blK ?_|refine exW ?_|refine skW ?_|refine rtW ?_)
   · refine⟨.inr rfl,?_⟩;rw[show az p l=k from bP hlt hc au];exact fun _ _ h=>h
   · exact⟨k+1,⟨oM,fun j hj=>aH au hc hj⟩,oM,⟨rfl,rfl,rfl,rfl,tI⟩,rfl⟩
   · exfalso;omega
 · repeat' (first|refine qT ?_|apply sqW|refine rgK fun U V=>?_|(refine aN V ?_;clear V U)|refine cX ?_ ?_<;>intro hc<;>try simp only[dE] at hc|refine blK ?_|refine exW ?_|refine skW ?_|refine rtW ?_)
   · exfalso;omega
   · refine⟨.inr rfl,?_⟩;rw[show az p l = -1 from bX fun j hj=>au j oM];exact fun _ _ h=>h
theorem DR (l:List Letter) (fv:AV) (p:Letter→Bool) (hp:∀x∈l,bF Tryz.prog fv [.agg (dL x)] (.b (p x))) (hl:l.length≤9223372036854775807) :
 PCall Tryz.prog 288 [.sl 2 (l.map dL) .no,fv] (.int (az p l)):=by
 refine PCall.di [1] Tryz.func288 rfl rfl Tryz.ntmps288 rfl rfl ?_
 repeat' (first|refine qT ?_|apply sqW|refine rgK fun U V=>?_|(refine aN V ?_;clear V U)|refine blK ?_)
 refine lpW (ι:=Nat) (fun k=>[(0,.sl 2 (l.map dL) .no),(1,.ext fv),(7,.int l.length),(8,.int k)]) (fun _=>[]) (fun k=>k≤l.length∧∀j,j<k→p (l.getD j default)=false) (fun k=>l.length - k) 0 ⟨nZl _,fun j h=>absurd h oM⟩ ⟨rfl,rfl,rfl,rfl,tI⟩ rfl ?_;rintro k ⟨hk,au⟩;by_cases hlt:k<l.length
 · repeat' (first|refine qP ?_ (h:=fun hg=>by first|exact aa|exact PRun.fx (hp _ (dD hlt)) rfl rfl nd rfl nds|exact af)|apply sqW|refine rgK fun U V=>?_|(refine aN V ?_;clear V U)|refine cX ?_ ?_<;>intro hc<;>try simp only[dE] at hc|refine blK ?_|refine exW ?_|refine skW ?_|refine rtW ?_)
   · refine⟨.inr rfl,?_⟩;rw[show az p l=k from bP hlt hc au];exact fun _ _ h=>h
   · exact⟨k+1,⟨oM,fun j hj=>aH au hc hj⟩,oM,⟨rfl,rfl,rfl,rfl,tI⟩,rfl⟩
   · exfalso;omega
 · repeat' (first|refine qT ?_|apply sqW|refine rgK fun U V=>?_|(refine aN V ?_;clear V U)|refine cX ?_ ?_<;>intro hc<;>try simp only[dE] at hc|refine blK ?_|refine exW ?_|refine skW ?_|refine rtW ?_)
   · exfalso;omega
   · refine⟨.inr rfl,?_⟩;rw[show az p l = -1 from bX fun j hj=>au j oM];exact fun _ _ h=>h
theorem BE (l:List cN) (fv:AV) (p:cN→Bool) (hp:∀x∈l,bF Tryz.prog fv [.agg (bz x)] (.b (p x))) (hl:l.length≤9223372036854775807) :
 PCall Tryz.prog 211 [.sl 3 (l.map bz) .no,fv] (.b (decide (az p l≥0))):=by
 refine PCall.di [1] Tryz.func211 rfl rfl Tryz.ntmps211 rfl rfl ?_
 repeat' (first|refine qP ?_ (h:=fun hg=>by first|exact aa|exact pc (pU l fv p hp hl)|exact af)|apply sqW|refine rgK fun U V=>?_|(refine aN V ?_;clear V U)|refine rtW ?_)
 exact⟨.inr rfl,fun _ _ h=>h⟩
theorem BF (l:List Letter) (fv:AV) (p:Letter→Bool) (hp:∀x∈l,bF Tryz.prog fv [.agg (dL x)] (.b (p x))) (hl:l.length≤9223372036854775807) :
 PCall Tryz.prog 255 [.sl 2 (l.map dL) .no,fv] (.b (decide (az p l≥0))):=by
 refine PCall.di [1] Tryz.func255 rfl rfl Tryz.ntmps255 rfl rfl ?_
 repeat' (first|refine qP ?_ (h:=fun hg=>by first|exact aa|exact pc (DR l fv p hp hl)|exact af)|apply sqW|refine rgK fun U V=>?_|(refine aN V ?_;clear V U)|refine rtW ?_)
 exact⟨.inr rfl,fun _ _ h=>h⟩
theorem pV (l:List cN) (fv:AV) (p:cN→Bool) (hp:∀x∈l,bF Tryz.prog fv [.agg (bz x)] (.b (p x))) (hl:l.length≤9223372036854775807) :
 PCall Tryz.prog 146 [.sl 3 (l.map bz) .no,fv] (.b (decide (az p l≥0))):=by
 refine PCall.di [1] Tryz.func146 rfl rfl Tryz.ntmps146 rfl rfl ?_
 repeat' (first|refine qP ?_ (h:=fun hg=>by first|exact aa|exact pc (BE l fv p hp hl)|exact af)|apply sqW|refine rgK fun U V=>?_|(refine aN V ?_;clear V U)|refine rtW ?_)
 exact⟨.inr rfl,fun _ _ h=>h⟩
theorem DS (l:List Letter) (fv:AV) (p:Letter→Bool) (hp:∀x∈l,bF Tryz.prog fv [.agg (dL x)] (.b (p x))) (hl:l.length≤9223372036854775807) :
 PCall Tryz.prog 196 [.sl 2 (l.map dL) .no,fv] (.b (decide (az p l≥0))):=by
 refine PCall.di [1] Tryz.func196 rfl rfl Tryz.ntmps196 rfl rfl ?_
 repeat' (first|refine qP ?_ (h:=fun hg=>by first|exact aa|exact pc (BF l fv p hp hl)|exact af)|apply sqW|refine rgK fun U V=>?_|(refine aN V ?_;clear V U)|refine rtW ?_)
 exact⟨.inr rfl,fun _ _ h=>h⟩
def nG (b:cN):Bool:=!inB b.number 0 100000||!inB b.bar 1 1000000||!inB b.pass 0 9
def nI (e:ah) (l:Letter):Bool:=!eB l.name||!inB l.pos 0 ((e.bars.length:Int) - 1)
theorem zB (b:cN):PCall Tryz.prog 194 [.agg (bz b)] (.b (nG b)):=by
 refine PCall.body Tryz.func194 rfl rfl Tryz.ntmps194 rfl rfl ?_
 repeat' (first|refine qP ?_ (h:=fun hg=>by first|exact aa|exact pc (gO _ _ _)|exact af)|apply sqW|refine rgK fun U V=>?_|(refine aN V ?_;clear V U)|refine aB ?_|refine rtW ?_)
 exact⟨.inr rfl,fun _ _ h=>h⟩
theorem zC (e:ah) (l:Letter) (hn:l.name.size≤9223372036854775807) (hb:e.bars.length≤9223372036854775807):PCall Tryz.prog 195 [.agg (dL l),.iptr (aF e)] (.b (nI e l)):=by
 refine PCall.body Tryz.func195 rfl rfl Tryz.ntmps195 rfl rfl ?_
 repeat' (first|refine qP ?_ (h:=fun hg=>by first|exact aa|exact pc (gO _ _ _)|exact pc (ra l.name hn)|exact af)|apply sqW|refine rgK fun U V=>?_|(refine aN V ?_;clear V U)|refine aB ?_|refine rtW ?_)
 exact⟨.inr rfl,fun _ _ h=>h⟩
structure Wf (e:ah):Prop where
 bars:e.bars.length≤9223372036854775807
 letters:e.letters.length≤9223372036854775807
 names:∀x∈e.letters,x.name.size≤9223372036854775807
def uG (e:ah):Bool:=!decide (az nG e.bars≥0)&&!decide (az (nI e) e.letters≥0)&&((ca e.letters).length:Int)==(e.letters.length:Int)
theorem mS (e:ah) (hw:Wf e):PCall Tryz.prog 126 [.agg (aF e)] (.b (iS e&&uG e)):=by
 refine PCall.body Tryz.func126 rfl rfl Tryz.ntmps126 rfl rfl ?_;have dv:∀x∈e.bars,bF Tryz.prog (.fn (.func 194) [] []) [.agg (bz x)] (.b (nG x)):=fun x _=>⟨194,[],[],rfl,zB x⟩
 have hlet:∀x∈e.letters,bF Tryz.prog (.fn (.func 195) [] [.iptr (aF e)]) [.agg (dL x)] (.b (nI e x)):=fun x hx=>⟨195,[],[.iptr (aF e)],rfl,zC e x (hw.names x hx) hw.bars⟩
 repeat' (first|refine qP ?_ (h:=fun hg=>by first|exact aa|exact pc (gO _ _ _)|exact af)|apply sqW|refine rgK fun U V=>?_|(refine aN V ?_;clear V U)|refine aB ?_|refine cX ?_ ?_<;>intro hc<;>try simp only[dE] at hc|refine skW ?_|refine rtW ?_|refine kD fun U V=>?_|(refine aqN (V _ ?_);clear V U)|refine aqQ rfl rfl (fun hg=>by first|exact aa|exact pcW (pV e.bars (.fn (.func 194) [] []) nG dv hw.bars) rfl rfl nd rfl nds|exact pbW (DS e.letters (.fn (.func 195) [] [.iptr (aF e)]) (nI e) hlet hw.letters) rfl rfl nd rfl rfl nds|exact pc (pT e hw.letters)|exact PRun.sM rfl (Rd.w rfl nd) (Or.inl rfl) (lkG rfl)|exact af) (by exact rfl) ?_)
 · have:iS e=false:=by simp[iS,inB] at hc ⊢;omega
   refine⟨.inr rfl,?_⟩;rw[this];exact fun _ _ h=>h
 · have:iS e=true:=by simp[iS,inB] at hc ⊢;omega
   refine⟨.inr rfl,?_⟩;rw[this];exact fun _ _ h=>h
theorem gq {α:Type} [Inhabited α] (p:α→Bool) (l:List α):(!decide (az p l≥0))=l.all fun x=>!p x:=by
 rw[zAi];simp only[zB3,dEf,zA4];constructor
 · intro h x hx;cases hpx:p x with
   |false=>rfl
   | true =>
     exfalso;apply h;unfold az;cases hf:l.findIdx? p with
     |none=>rw[List.findIdx?_eq_none_iff] at hf;have:=hf x hx;rw[hpx] at this;cases this
     |some i=>simp
 · intro h h2;obtain⟨k,_,hk,hpk,_⟩:=bY h2;have:=h _ (dD hk);rw[hpk] at this;cases this
theorem FZ {κ α:Type} [DecidableEq κ] (al:List (κ×α)) (k:κ) (v:α):(ins al k v).map (·.1)=if k∈al.map (·.1) then al.map (·.1) else al.map (·.1)++[k]:=by
 induction al with
 |nil=>simp[ins]
 | cons p r ih =>
   obtain⟨k',v'⟩:=p;simp only[ins];by_cases h:k'=k
   · subst h;simp
   · rw[if_neg h];simp only[zBt,ih,zAo];have h':¬k=k':=fun e=>h e.symm
     by_cases h2:k∈r.map (·.1)
     · simp[h2]
     · simp[h2,h']
theorem F0 (l:List Letter):∀(acc:List (ByteArray×Int)),(l.foldl (fun al x=>ins al x.name x.pos) acc).length≤acc.length+l.length ∧
 ((l.foldl (fun al x=>ins al x.name x.pos) acc).length=acc.length+l.length↔(l.map (·.name)).Nodup∧∀x∈l,x.name∉acc.map (·.1)):=by
 induction l with
 |nil=>intro acc;simp
 | cons x r ih =>
   intro acc;simp only[List.foldl_cons,zAd];obtain⟨h1,h2⟩:=ih (ins acc x.name x.pos);have hk:=FZ acc x.name x.pos;by_cases hx:x.name∈acc.map (·.1)
   · rw[if_pos hx] at hk;have hlen:(ins acc x.name x.pos).length=acc.length:=by have:=congrArg List.length hk;simpa using this
     rw[hlen] at h1;refine⟨oM,⟨fun h=>by omega,fun h=>absurd hx (h.2 x (zB8 ..))⟩⟩
   · rw[if_neg hx] at hk;have hlen:(ins acc x.name x.pos).length=acc.length+1:=by have:=congrArg List.length hk;simpa using this
     rw[hlen] at h1 h2;refine⟨oM,?_⟩;rw[show acc.length+(r.length+1)=acc.length+1+r.length by omega,h2,hk];simp only[zBt,List.nodup_cons,zAx,zA9,not_or,zAo];constructor
     · rintro⟨h3,h4⟩;refine⟨⟨fun hm=>?_,h3⟩,fun y hy=>?_⟩
       · obtain⟨y,hy,he⟩:=zAq.1 hm;exact(h4 y hy).2.1 he
       · rcases hy with rfl|hy
         · exact hx
         · exact(h4 y hy).1
     · rintro⟨⟨h3,h4⟩,h5⟩;exact⟨h4,fun y hy=>⟨h5 y (.inr hy),fun he=>h3 (zAq.2 ⟨y,hy,he⟩),by simp⟩⟩
theorem nodup_iff (l:List Letter):((ca l).length:Int)=(l.length:Int)↔∀i,i<l.length→fm l (l.getD i default).name=i:=by
 have h:=(F0 l []).2;simp only[zAm,zBv] at h;have e:((ca l).length:Int)=(l.length:Int)↔(ca l).length=l.length:=oM;rw[e];unfold ca;rw[h];simp only[List.map_nil,zCe,not_false_eq_true,implies_true,and_true];constructor
 · intro hn i hi;refine bP hi sMp fun j hj=>?_
   cases hb:(l.getD j default).name.toList==(l.getD i default).name.toList with
   |false=>rfl
   | true =>
     exfalso;have he:=lW hb;have hj':j<l.length:=oM;rw[bb hj',bb hi] at he;rw[List.nodup_iff_pairwise_ne,zCc] at hn;exact hn j i (by simpa using hj') (by simpa using hi) hj (by simpa using he)
 · intro au;rw[List.nodup_iff_pairwise_ne,zCc];intro i j hi hj hij he;simp at hi hj he;have h1:=au j hj;obtain⟨k,hk1,hk2,hk3,hk4⟩:=bY (p:=fun x:Letter=>x.name.toList==(l.getD j default).name.toList) (l:=l) (by show 0≤fm l _;rw[h1];omega);have h2:(k:Int)=j:=by rw[←hk1];exact h1
   have h3:=hk4 i oM;rw[bb hi,bb hj,he] at h3;simp at h3
theorem DT (e:ah):(iS e&&uG e)=bE e:=by
 unfold bE uG;rw[gq,gq,zDw (iS e)];congr 1;have e1:(e.bars.all fun x=>!nG x)=e.bars.all gx:=by
  congr 1;funext x;unfold nG gx;cases inB x.number 0 100000<;>cases inB x.bar 1 1000000<;>cases inB x.pass 0 9<;>rfl
 rw[e1,zDw];congr 1;rw[zAi];simp only[zA0,zA4,zAs,beq_iff_eq,nodup_iff];constructor
 · rintro⟨h1,h2⟩ i hi;have:=h1 _ (dD hi);unfold nI at this;unfold kF;rw[h2 i hi];revert this;cases eB (e.letters.getD i default).name<;>cases inB (e.letters.getD i default).pos 0 (↑e.bars.length - 1)<;>simp
 · intro h;refine⟨fun x hx=>?_,fun i hi=>?_⟩
   · obtain⟨i,hi,rfl⟩:=zAu.1 hx;have:=h i hi;rw[←bb hi];unfold kF at this;unfold nI;revert this;cases eB (e.letters.getD i default).name<;>cases inB (e.letters.getD i default).pos 0 (↑e.bars.length - 1)<;>simp
   · have:=h i hi;unfold kF at this;simp only[zA0,beq_iff_eq] at this;exact this.2
theorem iU (e:ah) (hw:Wf e):PCall Tryz.prog 126 [.agg (aF e)] (.b (bE e)):=DT e▸mS e hw
end Go.Proofs.YthiaimakjmhegaaGreatDoor.Ed
/- Letter, Number, Place, Visit. -/
namespace Go.Proofs.YthiaimakjmhegaaGreatDoor.Ed
open Go.Ab
attribute [local irreducible] AWP AOps EStep AQ PStep PRun PCall TCall VCall
theorem oE {α:Type} [Inhabited α] (p:α→Bool) (l:List α):-1≤az p l∧az p l<l.length:=by
 rcases Int.lt_or_le (az p l) 0 with h|h
 · have:=uV.1 h;omega
 · obtain⟨k,h1,h2,_⟩:=bY h;omega
theorem ok2 {a b:Bool} (h:(!a||!b)=false):(a&&b)=true:=by cases a<;>cases b<;>simp_all
theorem ok3 {a b c:Bool} (h:(!a||!b||!c)=false):(a&&b&&c)=true:=by cases a<;>cases b<;>cases c<;>simp_all
def il (n:Int) (b:cN):Bool:=b.number==n
theorem DU (b:cN) (n:Int):PCall Tryz.prog 145 [.agg (bz b),.iptr [.int n]] (.b (il n b)):=by
 refine PCall.body Tryz.func145 rfl rfl Tryz.ntmps145 rfl rfl ?_
 repeat' (first|refine qS ?_|apply sqW|refine rgK fun U V=>?_|(refine aN V ?_;clear V U)|refine aB ?_|refine rtW ?_)
 exact⟨.inr rfl,fun _ _ h=>h⟩
def mT (e:ah) (n:Int):Int:=az (il n) e.bars
def gQ (e:ah) (n:Int):Int×Int :=
 if bE e&&inB n 0 100000 then
  (if mT e n<0 then (0,4) else if az (il n) (e.bars.drop (mT e n+1).toNat)≥0 then (0,5) else (mT e n,0))
 else (0,1)
theorem zD (e:ah) (hw:Wf e) (n:Int):PCall Tryz.prog 79 [.agg (aF e),.int n] (.tup [.int (gQ e n).1,.int (gQ e n).2]):=by
 refine PCall.body Tryz.func79 rfl rfl Tryz.ntmps79 rfl rfl ?_;have hf:∀x,bF Tryz.prog (.fn (.func 145) [] [.iptr [.int n]]) [.agg (bz x)] (.b (il n x)):=fun x=>⟨145,[],[.iptr [.int n]],rfl,DU x n⟩
 have hb:=hw.bars;have hub:=oE (il n) e.bars;have hd:∀k,(e.bars.drop k).length≤9223372036854775807:=fun k=>by simp;omega
 repeat' (first|refine qP ?_ (h:=fun hg=>by first|exact aa|exact pc (gO _ _ _)|exact pc (iU e hw)|exact pbW (pU e.bars (.fn (.func 145) [] [.iptr [.int n]]) (il n) (fun x _=>hf x) hw.bars) rfl rfl nd rfl rfl nds|exact PRun.w7 ab rfl rfl nd rfl nd rfl oM|exact pbW (pV (e.bars.drop (az (il n) e.bars+1).toNat) (.fn (.func 145) [] [.iptr [.int n]]) (il n) (fun x _=>hf x) (hd _)) rfl rfl nd rfl rfl nds|exact af)|apply sqW|refine rgK fun U V=>?_|(refine aN V ?_;clear V U)|refine aB ?_|refine cX ?_ ?_<;>intro hc<;>try simp only[dE] at hc|refine blK ?_|refine skW ?_|refine rtW ?_)
 all_goals (refine⟨.inr rfl,?_⟩)
 all_goals (clear hf hd)
 · rw[show gQ e n=(0,1) from by unfold gQ;rw[if_neg];revert hc;cases bE e<;>cases inB n 0 100000<;>simp];exact fun _ _ h=>h
 · rename_i hc0;rw[show gQ e n=(0,4) from by unfold gQ mT;rw[if_pos (ok2 hc0),if_pos hc]];exact fun _ _ h=>h
 · rename_i hc0 hc1;rw[show gQ e n=(0,5) from by unfold gQ mT;rw[if_pos (ok2 hc0),if_neg oM,if_pos hc]];exact fun _ _ h=>h
 · rename_i hc0 hc1;rw[show gQ e n=(az (il n) e.bars,0) from by unfold gQ mT;rw[if_pos (ok2 hc0),if_neg oM,if_neg oM]];exact fun _ _ h=>h
def gR (e:ah) (nm:ByteArray):Int×Int :=
 if bE e&&eB nm then (match lk (ca e.letters) nm with|some i=>(i,0)|none=>(0,4)) else (0,1)
theorem xU (e:ah) (hw:Wf e) (nm:ByteArray) (hn:nm.size≤9223372036854775807):PCall Tryz.prog 78 [.agg (aF e),.str nm] (.tup [.int (gR e nm).1,.int (gR e nm).2]):=by
 refine PCall.body Tryz.func78 rfl rfl Tryz.ntmps78 rfl rfl ?_
 repeat' (first|refine qP ?_ (h:=fun hg=>by first|exact aa|exact pc (ra nm hn)|exact pc (iU e hw)|exact pc (pT e hw.letters)|exact PRun.lookup (ek:=ekS) (ev:=AV.int) (sK (lkG rfl)) (lkG rfl) (lkG rfl) rfl rfl (Rd.w rfl nd) (Or.inl rfl) (Rd.w rfl nd) rfl|exact af)|apply sqW|refine rgK fun U V=>?_|(refine aN V ?_;clear V U)|refine aB ?_|refine cX ?_ ?_<;>intro hc<;>try simp only[dE] at hc|refine skW ?_|refine rtW ?_)
 all_goals (refine⟨.inr rfl,?_⟩)
 · rw[show gR e nm=(0,1) from by unfold gR;rw[if_neg];revert hc;cases bE e<;>cases eB nm<;>simp];exact fun _ _ h=>h
 · rename_i hc0;rw[show gR e nm=(0,4) from by unfold gR;rw[if_pos (ok2 hc0)];cases hl:lk (ca e.letters) nm<;>simp_all];exact fun _ _ h=>h
 · rename_i hc0;rw[show gR e nm=((lk (ca e.letters) nm).getD 0,0) from by unfold gR;rw[if_pos (ok2 hc0)];cases hl:lk (ca e.letters) nm<;>simp_all];exact fun _ _ h=>h
def plP (vb vp:Int) (b:cN):Bool:=b.bar==vb&&(b.pass==0||b.pass==vp)
theorem F1 (b:cN) (vb vp:Int):PCall Tryz.prog 129 [.agg (bz b),.iptr [.int vb,.int vp]] (.b (plP vb vp b)):=by
 refine PCall.body Tryz.func129 rfl rfl Tryz.ntmps129 rfl rfl ?_
 repeat' (first|refine qS ?_|apply sqW|refine rgK fun U V=>?_|(refine aN V ?_;clear V U)|refine aB ?_|refine rtW ?_)
 exact⟨.inr rfl,fun _ _ h=>h⟩
def plI (e:ah) (vb vp:Int):Int:=az (plP vb vp) e.bars
structure PlR where
 pos:Int
 pass:Int
 ok:Bool
 err:Int
 deriving DecidableEq
def plR (e:ah) (vb vp:Int):PlR :=
 if bE e&&inB vb 1 1000000&&inB vp 1 20000 then
  (if plI e vb vp<0 then ⟨0,0,false,0⟩ else ⟨plI e vb vp,if (e.bars.getD (plI e vb vp).toNat default).pass==0&&decide (vp>1) then vp else 0,true,0⟩)
 else ⟨0,0,false,1⟩
def wE (r:PlR):AV:=.tup [.int r.pos,.int r.pass,.b r.ok,.int r.err]
theorem oF (e:ah) (hw:Wf e) (vb vp:Int):PCall Tryz.prog 62 [.agg (aF e),.agg [.int vb,.int vp]] (wE (plR e vb vp)):=by
 refine PCall.body Tryz.func62 rfl rfl Tryz.ntmps62 rfl rfl ?_;have hf:∀x,bF Tryz.prog (.fn (.func 129) [] [.iptr [.int vb,.int vp]]) [.agg (bz x)] (.b (plP vb vp x)):=fun x=>⟨129,[],[.iptr [.int vb,.int vp]],rfl,F1 x vb vp⟩
 have hb:=hw.bars;have hub:=oE (plP vb vp) e.bars
 repeat' (first|refine qP ?_ (h:=fun hg=>by first|exact aa|exact pc (gO _ _ _)|exact pc (iU e hw)|exact pbW (pU e.bars (.fn (.func 129) [] [.iptr [.int vb,.int vp]]) (plP vb vp) (fun x _=>hf x) hw.bars) rfl rfl nd rfl rfl nds|exact af)|apply sqW|refine rgK fun U V=>?_|(refine aN V ?_;clear V U)|refine aB ?_|refine cX ?_ ?_<;>intro hc<;>try simp only[dE] at hc|refine skW ?_|refine rtW ?_)
 all_goals (refine⟨.inr rfl,?_⟩)
 all_goals (clear hf)
 · rw[show plR e vb vp=⟨0,0,false,1⟩ from by unfold plR;rw[if_neg];revert hc;cases bE e<;>cases inB vb 1 1000000<;>cases inB vp 1 20000<;>simp];exact fun _ _ h=>h
 · rename_i hc0;rw[show plR e vb vp=⟨0,0,false,0⟩ from by unfold plR plI;rw[if_pos (ok3 hc0),if_pos hc]];exact fun _ _ h=>h
 · rename_i hc0 hc1;rw[show plR e vb vp=⟨az (plP vb vp) e.bars,vp,true,0⟩ from by unfold plR plI;rw[if_pos (ok3 hc0),if_neg oM,if_pos hc]];exact fun _ _ h=>h
 · rename_i hc0 hc1;rw[show plR e vb vp=⟨az (plP vb vp) e.bars,0,true,0⟩ from by unfold plR plI;rw[if_pos (ok3 hc0),if_neg oM,if_neg (by rw[hc];exact Bool.false_ne_true)]];exact fun _ _ h=>h
structure ViR where
 bar:Int
 pass:Int
 err:Int
 deriving DecidableEq
def viR (e:ah) (i pass:Int):ViR :=
 if bE e&&inB i 0 ((e.bars.length:Int) - 1)&&inB pass 0 20000 then
  (if (e.bars.getD i.toNat default).pass=0 then ⟨(e.bars.getD i.toNat default).bar,max 1 pass,0⟩
   else if pass>1 then ⟨0,0,30⟩ else ⟨(e.bars.getD i.toNat default).bar,(e.bars.getD i.toNat default).pass,0⟩)
 else ⟨0,0,1⟩
def HM (r:ViR):AV:=.tup [.agg [.int r.bar,.int r.pass],.int r.err]
theorem oG (e:ah) (hw:Wf e) (i pass:Int):PCall Tryz.prog 82 [.agg (aF e),.int i,.int pass] (HM (viR e i pass)):=by
 refine PCall.bN ab Tryz.func82 rfl rfl Tryz.ntmps82 rfl ?_;have hb:=hw.bars
 repeat' (first|refine qP ?_ (h:=fun hg=>by first|exact aa|exact pc (gO _ _ _)|exact pc (iU e hw)|exact pbD ab rfl rfl nds|exact af)|apply sqW|refine rgK fun U V=>?_|(refine aN V ?_;clear V U)|refine aB ?_|refine aS ?_|refine aA ?_|refine cX ?_ ?_<;>intro hc<;>try simp only[dE] at hc|refine skW ?_|refine rtW ?_)
 · refine⟨.inr rfl,_,rfl,?_⟩;rw[show viR e i pass=⟨0,0,1⟩ from by unfold viR;rw[if_neg];revert hc;cases bE e<;>cases inB i 0 ((e.bars.length:Int) - 1)<;>cases inB pass 0 20000<;>simp];exact fun _ _ h=>h
 have hok:=ok3 hc;have hi:0≤i∧i<e.bars.length:=by
  simp only[zA0] at hok;have:=hok.1.2;simp[inB] at this;omega
 clear hc
 repeat' (first|refine qP ?_ (h:=fun hg=>by first|exact aa|exact pbD ab rfl rfl nds|exact af)|apply sqW|refine rgK fun U V=>?_|(refine aN V ?_;clear V U)|refine aS ?_|refine aA ?_|refine cX ?_ ?_<;>intro hc<;>try simp only[dE] at hc|refine blK ?_|refine skW ?_|refine rtW ?_)
 all_goals (refine⟨.inr rfl,_,rfl,?_⟩)
 · rw[show viR e i pass=⟨(e.bars.getD i.toNat default).bar,max 1 pass,0⟩ from by unfold viR;rw[if_pos hok,if_pos (by simpa using hc)]];exact fun _ _ h=>h
 · rename_i hc0;rw[show viR e i pass=⟨0,0,30⟩ from by unfold viR;rw[if_pos hok,if_neg (by simpa using hc0),if_pos hc]];exact fun _ _ h=>h
 · rename_i hc0;rw[show viR e i pass=⟨(e.bars.getD i.toNat default).bar,(e.bars.getD i.toNat default).pass,0⟩ from by unfold viR;rw[if_pos hok,if_neg (by simpa using hc0),if_neg oM]];exact fun _ _ h=>h
theorem v8 {p:cN→Bool} {l:List cN} {i:Nat} (h:∀j,j<l.length→i<j→p (l.getD j default)=false):az p (l.drop (i+1))<0:=by
 have h1:az p (l.drop (i+1)) = -1:=bX fun j hj=>by
  have hj':i+1+j<l.length:=by simp at hj;omega
  have:=h (i+1+j) hj' oM;rw[bb hj'] at this;rw[bb hj,List.getElem_drop];exact this
 omega
theorem tb (l:List Letter) (k:Nat) (h:k<l.length) (nm:ByteArray):lk (ca (l.take (k+1))) nm=if (l.getD k default).name=nm then some (l.getD k default).pos else lk (ca (l.take k)) nm:=by
 rw[nF _ _ h,qA]
theorem rb (l:List Letter) (hd:∀i,i<l.length→fm l (l.getD i default).name=i):∀k,k≤l.length→∀i,i<k→lk (ca (l.take k)) (l.getD i default).name=some (l.getD i default).pos
 |0,_,i,hi=>by omega
 | k + 1, hk, i, hi => by
   rw[tb l k oM];by_cases h:(l.getD k default).name=(l.getD i default).name
   · have h1:=hd k oM;have h2:=hd i oM;rw[h] at h1;have:i=k:=oM;subst this;rw[if_pos rfl]
   · rw[if_neg h];have hik:i<k:=by
      rcases nLg i k with h'|h'
      · exact h'
      · exfalso;apply h;rw[show i=k by omega]
     exact rb l hd k oM i hik
theorem AG {l:List Letter} {nm:ByteArray} {v:Int}:∀k,k≤l.length→lk (ca (l.take k)) nm=some v→∃i,i<l.length∧(l.getD i default).name=nm
 |0,_,h=>by simp[ca,lk] at h
 | k + 1, hk, h => by
   rw[tb l k oM] at h;by_cases he:(l.getD k default).name=nm
   · exact⟨k,oM,he⟩
   · rw[if_neg he] at h;exact AG k oM h
theorem uH {e:ah} (h:bE e=true) {i:Nat} (hi:i<e.letters.length):fm e.letters (e.letters.getD i default).name=i:=by
 unfold bE at h;simp only[zA0,zA4] at h;have:=h.2 i (zAs.2 hi);unfold kF at this;simp only[zA0,beq_iff_eq] at this;exact this.2
theorem AH {e:ah} {nm:ByteArray} (hf:bE e=true) (hn:eB nm=true):gR e nm=if fm e.letters nm<0 then (0,4) else ((e.letters.getD (fm e.letters nm).toNat default).pos,0):=by
 unfold gR;rw[if_pos (by rw[hf,hn];rfl)];by_cases h:fm e.letters nm<0
 · rw[if_pos h];cases hl:lk (ca e.letters) nm with
   |none=>rfl
   | some v =>
     exfalso;obtain⟨i,hi,he⟩:=AG e.letters.length (nLr _) (by rw[zAh (nLr _)];exact hl);have:=uH hf hi;rw[he] at this;omega
 · rw[if_neg h];obtain⟨k,h1,h2,h3,_⟩:=bY (p:=fun x:Letter=>x.name.toList==nm.toList) (l:=e.letters) (by show 0≤fm e.letters nm;omega);have h4:fm e.letters nm=k:=h1;have he:=lW h3;have:=rb e.letters (fun i hi=>uH hf hi) e.letters.length (nLr _) k h2;rw[zAh (nLr _),he] at this;rw[this,h4,zAe]
end Go.Proofs.YthiaimakjmhegaaGreatDoor.Ed
