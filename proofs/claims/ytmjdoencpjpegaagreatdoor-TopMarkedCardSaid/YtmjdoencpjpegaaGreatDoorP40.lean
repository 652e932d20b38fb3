/- Parts of the proof. No statement is proved here. -/
import Derived.Test.YtmjdoencpjpegaaGreatDoorP38
import Derived.Test.YtmjdoencpjpegaaGreatDoorP39
set_option linter.unusedVariables false
set_option linter.unusedSimpArgs false
set_option maxHeartbeats 16000000
set_option maxRecDepth 20000
namespace Go.Ab
theorem Ent.slE {sz:Nat} {es es':List (List AV)} {t:Tok} (hl:es.length=es'.length) (hz:∀e∈es',e.length=sz) (h:∀(i j:Nat) (e e':List AV) (u v:AV),es[i]? = some e→es'[i]? = some e'→e[j]? = some u→e'[j]? = some v→Ent u v):Ent (.sl sz es t) (.sl sz es' .no):=fun M x hx=>by
 cases hx with
 | sl _ _ _ b off cap f hz2 hm hr hc ht =>
   rw[hl] at hc ⊢;refine .sl sz es' .no b off cap f hz (fun i j hi hj=>hm i j oM hj) (fun i j e' v h1 h2=>?_) hc trivial;have hi:i<es.length:=by
    have:=(zAd.1 h1).1;omega
   have hj:j<es[i].length:=by
    have:=(zAd.1 h2).1;rw[hz e' (zAe h1)] at this;rw[hz2 _ (lGm hi)];exact this
   exact h i j es[i] e' es[i][j] v (zA1 hi) h1 (zA1 hj) h2 _ _ (hr i j es[i] _ (zA1 hi) (zA1 hj))
 | slz =>
   have:es'=[]:=zAv hl.symm;subst this;exact .slz sz .no trivial
 | slzz _ a cap =>
   have:es'=[]:=zAv hl.symm;subst this;exact .slzz sz a cap
theorem Ent.CK {sz:Nat} {es:List (List AV)} {t:Tok}:Ent (.sl sz es t) (.sl sz es .no):=fun M x hx=>by
 cases hx with
 |sl _ _ _ b off cap f hz2 hm hr hc ht=>exact .sl sz es .no b off cap f hz2 hm hr hc trivial
 |slz=>exact .slz sz .no trivial
 |slzz _ a cap=>exact .slzz sz a cap
end Go.Ab
namespace Go.Proofs.YtmjdoencpjpegaaGreatDoor.Top
open Go.Ab Go.Jo Go.Sy Go.Sort Go.Pl Al Mk Cy De Pl
attribute [local irreducible] AWP AOps EStep AQ PStep PRun PCall TCall VCall
theorem qq (n d:Int):PCall Tryz.prog 66 [.int n,.int d] (.agg [.int n,.int d]):=by
 refine PCall.bO ab Tryz.func66 rfl rfl Tryz.ntmps66 rfl ?_
 repeat' (first|refine qP ?_ (h:=fun hg=>by first|exact ae|exact pbD ab rfl rfl nds|fail)|apply sqW|refine rgK fun U V=>?_|(refine aN V ?_;clear V U)|refine aS ?_|refine aA ?_|refine rtW ?_)
 exact⟨.inr rfl,_,rfl,Ent.of rfl⟩
def mkE (clock id note:Int):Ev:=⟨clock,3,1,0,⟨id,2,4,⟨0,0,0⟩,1,note,0,[]⟩⟩
theorem s8 (clock id note:Int):PCall Tryz.prog 15 [.int clock,.int id,.int note] (.agg (fN (mkE clock id note))):=by
 refine PCall.bO ab Tryz.func15 rfl rfl Tryz.ntmps15 rfl ?_
 repeat' (first|refine qP ?_ (h:=fun hg=>by first|exact ae|exact pbD ab rfl rfl nds|fail)|apply sqW|refine rgK fun U V=>?_|(refine aN V ?_;clear V U)|refine aS ?_|refine aA ?_|refine rtW ?_)
 exact⟨.inr rfl,_,rfl,Ent.of rfl⟩
def rP1:Part:=⟨1,5,0,0,2,⟨0,0⟩,⟨0,0,0⟩,⟨6,0,9⟩⟩
def rP2:Part:=⟨2,5,1,-1,1,⟨-1,-2⟩,⟨0,0,0⟩,⟨6,0,9⟩⟩
def fp (x:Int):Bar:=⟨x,⟨4,1⟩,0⟩
def gE (x:Int):ag:=⟨9+x,1,x,0,0,⟨0,1⟩,⟨1,1⟩,⟨x.tmod 7,0,4⟩⟩
def rS (v:Int) (l:List Int):Score:=⟨v,l.map fp,[rP1,rP2],l.map gE⟩
def RW (v:Int) (B:List (List AV)) (nb:Nat) (N:List (List AV)) (nn:Nat):aa:=[.var [.int 0,.nils,.nils,.nils],.var [.int 6,.int 0,.int 9],.var [.int v,.sl 4 B (.own 3),.sl 13 [bt rP1,bt rP2] .fresh,.sl 12 N (.own 4)],.own 4 nb,.own 12 nn]
theorem JF {α:Type} [Inhabited α] {l:List α} {k:Nat} (h:k<l.length):l.take (k+1)=l.take k++[l.getD k default]:=by
 rw[aU h];exact zBe h
theorem rY (v:Int) (l:List Int) (hl:l.length≤1000) (hin:∀x∈l,0≤x∧x≤1000):PCall Tryz.prog 33 [.int v,.sl 1 (l.map eI) .no] (.agg (encS (rS v l))):=by
 have r1:=qq 4 1;have r2:=qq 0 1;have r3:=qq 1 1;refine PCall.bO ab Tryz.func33 rfl rfl Tryz.ntmps33 rfl ?_
 repeat' (first|refine qP ?_ (h:=fun hg=>by first|exact ae|exact pbD ab rfl rfl nds|exact pbS ab rfl rfl nds|exact ah)|apply sqW|refine rgK fun U V=>?_|(refine aN V ?_;clear V U)|refine aS ?_|refine aA ?_|refine blK ?_)
 refine AWP.j5 (v:=2) (i:=1) (sz:=4) rfl rfl ?_;refine AWP.j5 (v:=2) (i:=3) (sz:=12) rfl rfl ?_
 refine lpD (ι:=Nat) (fun k=>[(4,.ptr 0 0),(6,.ptr 2 0),(18,.sl 1 (l.map eI) .no),(19,.int l.length),(20,.int k)]) (fun k=>RW v (((l.take k).map fp).map bD) (((l.take k).map fp).map bD).length (((l.take k).map gE).map ar) (((l.take k).map gE).map ar).length)
  (fun k=>k≤l.length) (fun k=>l.length - k) 5 (fun _=>rfl) 0 (nZl _) ⟨rfl,rfl,rfl,rfl,rfl,tI⟩ rfl (fun _ _=>rfl) (fun _ _=>rfl) ?_
 intro k hk;have hl1:((l.take k).map fp).length≤1000:=by rw[lLm,zAg];omega
 have hl2:((l.take k).map gE).length≤1000:=by rw[lLm,zAg];omega
 by_cases hlt:k<l.length
 · obtain⟨z,hz⟩:∃z,l.getD k default=z:=⟨_,rfl⟩
   obtain⟨z1,z2⟩:=hin z (by rw[←hz,aU hlt];exact lGm hlt);have e1:(l.take (k+1)).map fp=(l.take k).map fp++[fp z]:=by rw[JF hlt,hz,zAz];rfl
   have e2:(l.take (k+1)).map gE=(l.take k).map gE++[gE z]:=by rw[JF hlt,hz,zAz];rfl
   have h7:(7:Int)≠0:=dCd;have hm7:z.tmod 7=z.tmod 7:=rfl;generalize (l.take k).map fp=p1 at *;generalize (l.take k).map gE=p2 at *
   repeat' (first|refine qP ?_ (h:=fun hg=>by first|exact iX eI l ((k:Nat):Int) hz (hb:=oM)|exact ae|fail)|apply sqW|refine rgK fun U V=>?_|(refine aN V ?_;clear V U)|refine aS ?_|refine cX ?_ ?_<;>intro hc<;>try simp only[dE] at hc|refine blK ?_|refine exW ?_|refine skW ?_|refine rtW ?_)
   all_goals (first|exact dd|skip)
   refine AWP.gj dJ (fun j=>match j with|0=>RW v (p1.map bD) (p1.map bD).length (p2.map ar) (p2.map ar).length|1=>RW v (p1.map bD) (p1.map bD++[bD (fp z)]).length (p2.map ar) (p2.map ar).length|_=>RW v (p1.map bD++[bD (fp z)]) (p1.map bD++[bD (fp z)]).length (p2.map ar) (p2.map ar).length) rfl (by kernel_rfl) dKn rfl dKn (fun U V=>?_)
   repeat' (first
    |refine yt (h:=by refine⟨?_,?_,?_,?_⟩<;>intro hh hg<;>first|exact absurd hh dKn|exact ae|exact pc r1|exact pbD ab rfl rfl nds|exact pbS ab rfl rfl nds|exact ah|fail) (hk:=?_)|fail)
   refine YQ.e (v:=.sl 4 (p1.map bD++[bD (fp z)]) (.own 3)) (d:=some 30) rfl rfl rfl ?_ ?_
   · intro au he;exact apO (l:=3) ab rfl rfl rfl dCd (Rd.w ((ai (he 25 dKn)).trans rfl) (by rw[aj (he 25 dKn)];first|exact tI|exact rfl)) rfl (Rd.w ((ai (he 29 dKn)).trans rfl) (by rw[aj (he 29 dKn)];first|exact tI|exact rfl)) (.sl rfl (by intro x hx;rcases zA9.1 hx with rfl;rfl)) (lkG rfl) (lkG rfl) rfl rfl (by simp only[lLm,lLa,zAc,zAi];omega) (by simp only[lLm,lLa,zAc,zAi];omega) ⟨rfl,rfl⟩
   repeat' (first
    |refine yt (hk:=?_)|fail)
   refine YQ.e (v:=.any) (d:=none) rfl rfl rfl ?_ ?_
   · intro au he;exact stW ab rfl rfl ((ai (he 31 dKn)).trans rfl) (by rw[aj (he 31 dKn)];first|exact tI|exact rfl) rfl ((ai (he 30 dKn)).trans rfl) (by rw[aj (he 30 dKn)];first|exact tI|exact rfl) rfl rfl rfl rfl rfl rfl rfl ⟨rfl,rfl⟩
   repeat' (first
    |refine yt (hk:=?_)|fail)
   refine YQ.nil (V _ _ ?_);clear V U;show AWP _ _ _ _ _ (RW v (p1.map bD++[bD (fp z)]) (p1.map bD++[bD (fp z)]).length (p2.map ar) (p2.map ar).length)
   skip
   refine AWP.gj dJ (fun j=>match j with|0=>RW v (p1.map bD++[bD (fp z)]) (p1.map bD++[bD (fp z)]).length (p2.map ar) (p2.map ar).length|1=>RW v (p1.map bD++[bD (fp z)]) (p1.map bD++[bD (fp z)]).length (p2.map ar) (p2.map ar++[ar (gE z)]).length|_=>RW v (p1.map bD++[bD (fp z)]) (p1.map bD++[bD (fp z)]).length (p2.map ar++[ar (gE z)]) (p2.map ar++[ar (gE z)]).length) rfl (by kernel_rfl) dKn rfl dKn (fun U V=>?_)
   repeat' (first
    |refine yt (h:=by refine⟨?_,?_,?_,?_⟩<;>intro hh hg<;>first|exact absurd hh dKn|exact PRun.remV hm7 h7 rfl rfl nd rfl nd|exact ae|exact pc r2|exact pc r3|exact pbD ab rfl rfl nds|exact pbS ab rfl rfl nds|exact ah|fail) (hk:=?_)|fail)
   refine YQ.e (v:=.sl 12 (p2.map ar++[ar (gE z)]) (.own 4)) (d:=some 44) rfl rfl rfl ?_ ?_
   · intro au he;exact apO (l:=4) ab rfl rfl rfl dCd (Rd.w ((ai (he 33 dKn)).trans rfl) (by rw[aj (he 33 dKn)];first|exact tI|exact rfl)) rfl (Rd.w ((ai (he 43 dKn)).trans rfl) (by rw[aj (he 43 dKn)];first|exact tI|exact rfl)) (.sl rfl (by intro x hx;rcases zA9.1 hx with rfl;rfl)) (lkG rfl) (lkG rfl) rfl rfl (by simp only[lLm,lLa,zAc,zAi];omega) (by simp only[lLm,lLa,zAc,zAi];omega) ⟨rfl,rfl⟩
   repeat' (first
    |refine yt (hk:=?_)|fail)
   refine YQ.e (v:=.any) (d:=none) rfl rfl rfl ?_ ?_
   · intro au he;exact stW ab rfl rfl ((ai (he 45 dKn)).trans rfl) (by rw[aj (he 45 dKn)];first|exact tI|exact rfl) rfl ((ai (he 44 dKn)).trans rfl) (by rw[aj (he 44 dKn)];first|exact tI|exact rfl) rfl rfl rfl rfl rfl rfl rfl ⟨rfl,rfl⟩
   repeat' (first
    |refine yt (hk:=?_)|fail)
   refine YQ.nil (V _ _ ?_);clear V U;show AWP _ _ _ _ _ (RW v (p1.map bD++[bD (fp z)]) (p1.map bD++[bD (fp z)]).length (p2.map ar++[ar (gE z)]) (p2.map ar++[ar (gE z)]).length)
   repeat' (first|refine qS ?_|refine rgK fun U V=>?_|(refine aN V ?_;clear V U))
   refine⟨k+1,hlt,by show l.length - (k+1)<l.length - k;omega,⟨rfl,rfl,rfl,rfl,rfl,tI⟩,?_⟩;show _=RW v (((l.take (k+1)).map fp).map bD) (((l.take (k+1)).map fp).map bD).length (((l.take (k+1)).map gE).map ar) (((l.take (k+1)).map gE).map ar).length;rw[e1,e2,zAz,zAz];rfl
 · obtain rfl:k=l.length:=oM;rw[zB2] at *
   repeat' (first|refine qT ?_|apply sqW|refine rgK fun U V=>?_|(refine aN V ?_;clear V U)|refine aS ?_|refine cX ?_ ?_<;>intro hc<;>try simp only[dE] at hc|refine blK ?_|refine exW ?_|refine skW ?_|refine rtW ?_)
   all_goals (first|exact dd|skip)
   exact⟨.inr rfl,_,rfl,Ent.of rfl⟩
def D9 (n:Int):aR:=⟨n,[],[],⟨0,0,0⟩,[]⟩
def rW1:ba:=⟨rS 1 [1,2],D9 2,[]⟩
def rW2:ba:=⟨rS 2 [1],D9 1,[]⟩
def wkZ (s:Score) (n:Int):List AV:=[.int s.version,.sl 4 (s.bars.map bD) .no,.sl 13 (s.parts.map bt) .no,.sl 12 (s.notes.map ar) .no,.int n,.nils,.nils,.int 0,.int 0,.int 0,.nils,.nils]
theorem Cl {s:Score} {n:Int} {j:Nat} {u v:AV} (hu:(wkZ s n)[j]? = some u) (hv:(bb ⟨s,D9 n,[]⟩)[j]? = some v):Ent u v:=by
 match j,hu,hv with
 |0,hu,hv=>cases hu;cases hv;exact Ent.cB _
 |1,hu,hv=>cases hu;cases hv;exact Ent.cB _
 |2,hu,hv=>cases hu;cases hv;exact Ent.cB _
 |3,hu,hv=>cases hu;cases hv;exact Ent.cB _
 |4,hu,hv=>cases hu;cases hv;exact Ent.cB _
 |5,hu,hv=>cases hu;cases hv;exact Ent.nil
 |6,hu,hv=>cases hu;cases hv;exact Ent.nil
 |7,hu,hv=>cases hu;cases hv;exact Ent.cB _
 |8,hu,hv=>cases hu;cases hv;exact Ent.cB _
 |9,hu,hv=>cases hu;cases hv;exact Ent.cB _
 |10,hu,hv=>cases hu;cases hv;exact Ent.nil
 |11,hu,hv=>cases hu;cases hv;exact Ent.nil
 |k+12,hu,hv=>cases hu
theorem Gu:Ent (.sl 12 [wkZ rW1.score 2,wkZ rW2.score 1] .no) (.sl 12 ([rW1,rW2].map bb) .no) :=
 Ent.slE rfl (fun e he=>by
  obtain⟨w,_,rfl⟩:=zAf.1 he;rfl) fun i j e e' u v h1 h2 hu hv=>by
  match i,h1,h2 with
  |0,h1,h2=>cases h1;cases h2;exact Cl hu hv
  |1,h1,h2=>cases h1;cases h2;exact Cl hu hv
  |k+2,h1,h2=>cases h1
theorem Ap:PCall Tryz.prog 13 [] (.sl 12 ([rW1,rW2].map bb) .no):=by
 have e1:Ent (.sl 1 [[.int 1],[.int 2]] .fresh) (.sl 1 ([1,2].map eI) .no):=Ent.CK;have e2:Ent (.sl 1 [[.int 1]] .fresh) (.sl 1 ([1].map eI) .no):=Ent.CK;have s1:=rY 1 [1,2] dCd dCd;have s2:=rY 2 [1] dCd dCd;refine PCall.body Tryz.func13 rfl rfl Tryz.ntmps13 rfl rfl ?_
 repeat' (first|refine qP ?_ (h:=fun hg=>by first|exact ae|exact pbS ab rfl rfl nds|exact pbD ab rfl rfl nds|exact pc s1|exact pc s2|fail)|apply sqW|refine rgK fun U V=>?_|(refine aN V ?_;clear V U)|refine aS ?_|refine aA ?_|refine rtW ?_)
 exact⟨.inr rfl,Gu⟩
def bG (r:Room) (s:Std) (all:AV) (sc:Score):List AV:=[.int r.version,.int r.form.bars,.sl 3 (r.form.aC.map bk) .no,.sl 3 (r.form.ends.map cD) .no,.int r.form.jump.at_,.int r.form.jump.to,.int r.form.jump.dc,.sl 3 (r.form.cuts.map aW) .no,.sl 1 (r.aY.map eI) .no,
 .int s.id,.int s.who.part,.int s.who.cY,.int s.who.iO,.int s.ed,.int s.known,.sl 14 (s.evs.map fN) .no,all,.int sc.version,.sl 4 (sc.bars.map bD) .no,.sl 13 (sc.parts.map bt) .no,.sl 12 (sc.notes.map ar) .no]
def Ny (r:Room) (s:Std) (all:AV):List AV:=[.int r.version,.int r.form.bars,.sl 3 (r.form.aC.map bk) .no,.sl 3 (r.form.ends.map cD) .no,.int r.form.jump.at_,.int r.form.jump.to,.int r.form.jump.dc,.sl 3 (r.form.cuts.map aW) .no,.sl 1 (r.aY.map eI) .no,
 .int s.id,.int s.who.part,.int s.who.cY,.int s.who.iO,.int s.ed,.int s.known,.sl 14 (s.evs.map fN) .no,all,.int 0,.nils,.nils,.nils]
abbrev zFc:List AV:=[.int 0,.int 0,.nils,.nils,.int 0,.int 0,.int 0,.nils,.nils,.int 0,.int 0,.int 0,.int 0,.int 0,.int 0,.nils,.nils,.int 0,.nils,.nils,.nils]
def dS (ws:List ba) (ds:List Dec) (s:Std) (time:Int):Int :=
 if jC s=false then 1 else if (atR ws ds s.known time).2≠0 then (atR ws ds s.known time).2 else if (ws.all fun w=>aQ w.score)=true then 0 else 1
def FcS (r:Room) (s:Std) (A:List (List AV)) (n:Nat):aa:=[.var (fH s),.var [.int 0,.int 0,.nils,.nils,.int 0,.int 0,.int 0,.nils,.nils,.int 0,.int 0,.int 0,.int 0,.int 0,.int 0,.nils,.nils,.int 0,.nils,.nils,.nils],.var (yc r),.var (Ny r s (.sl 4 A (.own 4))),.own 4 n]
theorem Ea (ws:List ba) (ds:List Dec) (s:Std) (time:Int) (hl:ws.length≤1000000000) (hws:∀w∈ws,WIn w) (hd:ds.length≤1000000000) (ht:Txt s.evs) (hle:s.evs.length≤1000000000) (h0:dS ws ds s time=0) {k:Nat} {sc:Score} (hf:bL (aH ws) (atR ws ds s.known time).1.version=k) (hs:atS (aH ws) k=sc) :
 PCall Tryz.prog 19 [.sl 12 (ws.map bb) .no,.sl 6 (ds.map bu) .no,.agg (fH s),.int time] (.tup [.agg (bG (atR ws ds s.known time).1 s (.sl 4 ((aH ws).map encS) .no) sc),.int 0]):=by
 have hv:=dy s ht hle;have ha:=oG ws ds hl hws hd s.known time;have hvs:jC s=true:=by
  cases h:jC s with
  |true=>rfl
  |false=>unfold dS at h0;rw[h] at h0;cases h0
 unfold dS at h0;rw[hvs,if_neg dCd] at h0;have ha0:(atR ws ds s.known time).2=0:=by
  by_cases h:(atR ws ds s.known time).2≠0
  · rw[if_pos h] at h0;exact absurd h0 h
  · omega
 rw[ha0,if_neg dCd] at h0;have aT:∀w∈ws,aQ w.score=true:=by
  cases h:(ws.all fun w=>aQ w.score) with
  |true=>exact zA6.1 h
  |false=>rw[h] at h0;cases h0
 rw[hvs] at hv;have hfs:=Bl (aH ws) (by simp;omega) (atR ws ds s.known time).1.version;have hg:mb (aH ws) (atR ws ds s.known time).1.version=encS sc:=by unfold mb;rw[hf,if_neg oM,zAj,hs]
 rw[hg,hf] at hfs;rw[ha0] at ha;generalize (atR ws ds s.known time).1=r at *;refine PCall.bO ab Tryz.func19 rfl rfl Tryz.ntmps19 rfl ?_
 repeat' (first|refine qP ?_ (h:=fun hg=>by first|exact ae|exact pc hv|exact pc ha|exact pbD ab rfl rfl nds|exact ah)|apply sqW|refine rgK fun U V=>?_|(refine aN V ?_;clear V U)|refine aB ?_|refine aS ?_|refine aA ?_|refine cX ?_ ?_<;>intro hc<;>try simp only[dE] at hc|refine blK ?_|refine skW ?_|refine rtW ?_)
 all_goals (first|(exfalso;simp at hc;done)|skip)
 refine AWP.j5 (v:=3) (i:=16) (sz:=4) rfl rfl ?_
 refine lpD (ι:=Nat) (fun k=>[(0,.sl 12 (ws.map bb) .no),(6,.ptr 0 0),(8,.ptr 1 0),(12,.ptr 3 0),(35,.sl 12 (ws.map bb) .no),(36,.int ws.length),(37,.int k)]) (fun k=>FcS r s ((aH (ws.take k)).map encS) ((aH (ws.take k)).map encS).length)
  (fun k=>k≤ws.length) (fun k=>ws.length - k) 5 (fun _=>rfl) 0 (nZl _) ⟨rfl,rfl,rfl,rfl,rfl,rfl,rfl,tI⟩ rfl (fun _ _=>rfl) (fun _ _=>rfl) ?_
 intro k hk;by_cases hlt:k<ws.length
 · obtain⟨w,hw⟩:∃w,ws.getD k default=w:=⟨_,rfl⟩
   have hst:=qk hlt hw;have hm:w∈ws:=by rw[←hw];exact bT hlt
   have hvw:=_root_.Go.Proofs.YtmjdoencpjpegaaGreatDoor.dy w.score (hws w hm).score;rw[aT w hm] at hvw;have hlen:((aH (ws.take k)).map encS).length=k:=by simp;omega
   generalize (aH (ws.take k)).map encS=A at *
   repeat' (first|refine qP ?_ (h:=fun hg=>by first|exact iX bb ws ((k:Nat):Int) hw (hb:=oM)|exact ae|exact pc hvw|exact pbS ab rfl rfl nds|fail)|apply sqW|refine rgK fun U V=>?_|(refine aN V ?_;clear V U)|refine aS ?_|refine aA ?_|refine aoE (apO ab rfl rfl rfl dCd (Rd.w rfl tI) rfl (Rd.w rfl tI) (.sl rfl (by first|(intro x hx;rcases zA9.1 hx with rfl;rfl)|exact one_by8 _|exact one_ints _)) (lkG rfl) (lkG rfl) rfl rfl (by simp only[lLm,lLa,zAc,zAi];omega) (by simp only[lLm,lLa,zAc,zAi];omega) ?_)|refine cX ?_ ?_<;>intro hc<;>try simp only[dE] at hc|refine blK ?_|refine exW ?_|refine skW ?_)
   all_goals (first|exact dd|skip)
   refine⟨k+1,hlt,oM,⟨rfl,rfl,rfl,rfl,rfl,rfl,rfl,tI⟩,?_⟩;rw[←hst];rfl
 · obtain rfl:k=ws.length:=oM;rw[zB2]
   repeat' (first|refine qP ?_ (h:=fun hg=>by first|exact ae|exact pc hfs|exact ah)|apply sqW|refine rgK fun U V=>?_|(refine aN V ?_;clear V U)|refine aS ?_|refine aA ?_|refine cX ?_ ?_<;>intro hc<;>try simp only[dE] at hc|refine blK ?_|refine exW ?_|refine skW ?_|refine rtW ?_)
   all_goals (first|exact dd|skip)
   exact⟨.inr rfl,_,rfl,Ent.of rfl⟩
structure GF (r:Room) (s:Std) (l:List Score) (k:Nat) (sc:Score):Prop where
 mf:cW l=true
 kl:k<l.length
 at_:atS l k=sc
 ok:aQ sc=true
 gd:∀x∈l,aQ x=true
 few:∀x∈l,dt x=true
 len:l.length≤1000000
 rv:r.version=sc.version
 rdr:cu s.who=true
 ev:dL s.evs=true
 evl:s.evs.length≤1000000
 txt:Txt s.evs
abbrev cV (s:Std) (sc:Score):Int:=aX (fun p:Part=>p.id==s.who.part) sc.parts
abbrev bN (s:Std) (sc:Score):Part:=sc.parts.getD (cV s sc).toNat default
def ib (s:Std) (l:List Score) (sc:Score):(List Jo.Mark×List Jo.Mark)×Int :=
 if (decide (cV s sc<0)||decide ((bN s sc).jg<s.who.cY))=true then (([],[]),22) else ((bM l sc s.who (bN s sc) (bE s.evs),eX l sc s.who (bN s sc) (bE s.evs)),0)
theorem GF.fr {r:Room} {s:Std} {l:List Score} {k:Nat} {sc:Score} (G:GF r s l k sc) (h:¬(decide (cV s sc<0)||decide ((bN s sc).jg<s.who.cY))=true):Fr l k sc s.who (cV s sc).toNat (bN s sc) (bE s.evs):=by
 have h1:¬cV s sc<0:=fun e=>h (by rw[decide_eq_true e];rfl)
 have h2:¬(bN s sc).jg<s.who.cY:=fun e=>h (by rw[decide_eq_true e,Bool.or_true])
 obtain⟨j,hj,hjl,hp,_⟩:=eh (p:=fun p:Part=>p.id==s.who.part) (l:=sc.parts) (show 0≤cV s sc by omega);have hj1:cV s sc=j:=hj;have hj2:(cV s sc).toNat=j:=oM;refine⟨G.mf,G.kl,G.at_,G.ok,G.gd,G.rdr,?_,oM,rfl,?_,h2,rI G.ev⟩
 · show cV s sc=_;omega
 · have:(bN s sc).id=s.who.part:=by
    show(sc.parts.getD (cV s sc).toNat default).id=_;rw[hj2];exact beq_iff_eq.1 hp
   exact this
theorem GF.fv {r:Room} {s:Std} {l:List Score} {k:Nat} {sc:Score} (G:GF r s l k sc):bL l r.version=k:=by
 rw[G.rv,←G.at_];exact kT G.mf G.kl
theorem Bq (m:Jo.Mark) (hm:m.text.length≤9223372036854775807) (p:Part) (r:Room) (s:Std) (all:AV) (sc:Score) :
 PCall Tryz.prog 46 [.agg (aJ m),.iptr (bt p),.iptr (bG r s all sc)] (.b ((bp m p s.who).2==0&&(bp m p s.who).1)):=by
 have h:=pY m p s.who hm;refine PCall.body Tryz.func46 rfl rfl Tryz.ntmps46 rfl rfl ?_
 repeat' (first|refine qP ?_ (h:=fun hg=>by first|exact ae|exact pc h|fail)|apply sqW|refine rgK fun U V=>?_|(refine aN V ?_;clear V U)|refine aB ?_|refine rtW ?_)
 exact⟨.inr rfl,Ent.b rfl⟩
theorem lE {m:Jo.Mark} (h:bc m=true):m.text.length≤9223372036854775807:=by
 unfold bc at h;simp only[zA0] at h;have:=(pN.1 h.1.1.1.1.1.1.1).1;omega
theorem GF.txts {r:Room} {s:Std} {l:List Score} {k:Nat} {sc:Score} (G:GF r s l k sc):lu (bE s.evs):=fun m hm=>lE (Mk.ch (rI G.ev) hm)
theorem Gv {l:List Jo.Mark} {p:Jo.Mark→Bool} {k:Nat} {m:Jo.Mark} (hk:k<l.length) (h:l.getD k default=m):(l.take (k+1)).filter p=(l.take k).filter p++if p m then [m] else []:=by
 have:l.take (k+1)=l.take k++[m]:=by rw[←h,aU hk];exact zBe hk
 rw[this,zCj];by_cases hp:p m=true
 · rw[if_pos hp,zBq hp];rfl
 · rw[if_neg hp,zBx hp];rfl
abbrev kU (s:Std) (p:Part) (m:Jo.Mark):Bool:=(bp m p s.who).2==0&&(bp m p s.who).1
theorem Eb {r:Room} {s:Std} {l:List Score} {k:Nat} {sc:Score} (G:GF r s l k sc) :
 PCall Tryz.prog 20 [.agg (bG r s (.sl 4 (l.map encS) .no) sc)] (rV (ib s l sc)):=by
 have hsm:∀x∈l,x.Small:=fun x hx=>gA (G.few x hx)
 have Aq:sc∈l:=by rw[←G.at_];exact bT G.kl
 obtain⟨q1,q2,q3⟩:=hsm sc Aq;have hp:=Bm sc.parts oM s.who.part;have hml:=qc G.ev;have hel:=(fl.1 G.ev).2.2;have hm:=vk s.evs G.txt oM;have hmr:jF s.evs=(bE s.evs,0):=by unfold jF;rw[if_pos G.ev]
 rw[hmr] at hm;have hca:=IH l G.len G.few (bE s.evs) oM G.txts r.version;have hnum:iH r.version=true:=by rw[G.rv];exact sH G.ok
 have har:Cy.jo l (bE s.evs) r.version=((eo l sc (bE s.evs),dR (gB l sc) (bE s.evs)),0):=by
  unfold Cy.jo vE;rw[hnum,rI G.ev,G.mf,if_pos (show(true&&(true&&true))=true from rfl),G.fv,if_neg oM,zAj,G.at_,G.rv]
 rw[har] at hca;unfold ib;by_cases hn:cV s sc<0
 · rw[if_pos (by rw[decide_eq_true hn];rfl)];have e:Ah sc.parts s.who.part=bt ⟨0,0,0,0,0,⟨0,0⟩,⟨0,0,0⟩,⟨0,0,0⟩⟩:=if_pos hn;rw[e,decide_eq_true (show aX (fun p:Part=>p.id==s.who.part) sc.parts<0 from hn)] at hp;clear hm hca;refine PCall.bO ab Tryz.func20 rfl rfl Tryz.ntmps20 rfl ?_
   repeat' (first|refine qP ?_ (h:=fun hg=>by first|exact ae|exact pc hp|fail)|apply sqW|refine rgK fun U V=>?_|(refine aN V ?_;clear V U)|refine aB ?_|refine aS ?_|refine aA ?_|refine cX ?_ ?_<;>intro hc<;>try simp only[dE] at hc|refine skW ?_|refine rtW ?_)
   · exact⟨.inr rfl,_,rfl,vF 22⟩
   all_goals (exfalso;simp at hc;done)
 have e:Ah sc.parts s.who.part=bt (bN s sc):=if_neg hn;rw[e,decide_eq_false (show ¬aX (fun p:Part=>p.id==s.who.part) sc.parts<0 from hn)] at hp;by_cases hd:(bN s sc).jg<s.who.cY
 · rw[if_pos (by rw[decide_eq_true hd,Bool.or_true])];clear hm hca;generalize bN s sc=P at *;refine PCall.bO ab Tryz.func20 rfl rfl Tryz.ntmps20 rfl ?_
   repeat' (first|refine qP ?_ (h:=fun hg=>by first|exact ae|exact pc hp|fail)|apply sqW|refine rgK fun U V=>?_|(refine aN V ?_;clear V U)|refine aB ?_|refine aS ?_|refine aA ?_|refine cX ?_ ?_<;>intro hc<;>try simp only[dE] at hc|refine skW ?_|refine rtW ?_)
   · exact⟨.inr rfl,_,rfl,vF 22⟩
   all_goals (exfalso;simp at hc;omega)
 · have hb:¬(decide (cV s sc<0)||decide ((bN s sc).jg<s.who.cY))=true:=by
    rw[decide_eq_false hn,decide_eq_false hd];decide
   rw[if_neg hb];have F:=G.fr hb;generalize hP:bN s sc=P at *;generalize hM:bE s.evs=M at *;have hMl:M.length≤20000:=oM;have hsh:=Dw sc ⟨q1,q2,q3⟩ (by
    have:=G.few sc Aq;unfold dt at this;simp only[zA0,dEt] at this;omega) (eo l sc M) (zBu (zD8 _ _) oM) (fun m hm=>lE (Mk.ch (oe F) hm)) s.who
   have hsr:iW sc (eo l sc M) s.who=(bM l sc s.who P M,0):=by
    have e2:sc.parts.getD (jh sc s.who.part).toNat default=P:=by rw[←hP];rfl
    unfold iW;rw[e2,F.ok,oe F,F.rdr,if_pos (show((true&&true)&&true)=true from rfl),if_pos (by rw[F.pi];omega),if_neg F.cY]
   rw[hsr] at hsh;have hH:∀m∈dR (gB l sc) M,m.text.length≤9223372036854775807:=fun m hm=>lE (Mk.ch F.marks (zCb.1 hm).1)
   have hHl:(dR (gB l sc) M).length≤20000:=zBu (zBm _ _) hMl;show PCall _ _ _ (rV ((bM l sc s.who P M,(dR (gB l sc) M).filter (kU s P)),0));generalize bM l sc s.who P M=SF at *;generalize eo l sc M=PF at *;generalize dR (gB l sc) M=H at *;have hf2:=fun m hm=>Bq m hm P r s (.sl 4 (l.map encS) .no) sc
   refine PCall.bO ab Tryz.func20 rfl rfl Tryz.ntmps20 rfl ?_
   repeat' (first|refine qP ?_ (h:=fun hg=>by first|exact ae|exact pc hp|exact pc hm|exact pc hca|exact pc hsh|exact ah)|apply sqW|refine rgK fun U V=>?_|(refine aN V ?_;clear V U)|refine aB ?_|refine aS ?_|refine aA ?_|refine cX ?_ ?_<;>intro hc<;>try simp only[dE] at hc|refine blK ?_|refine skW ?_|refine rtW ?_)
   all_goals (first|(exfalso;simp at hc;omega)|(exfalso;simp at hc;done)|skip)
   refine AWP.ei 0 rfl rfl ?_;refine AWP.ei 1 rfl rfl ?_;refine AWP.fX (d:=3) (sz:=10) rfl ?_
   refine lpD (ι:=Nat) (fun k=>[(2,.sl 10 (SF.map aJ) .no),(3,.sl 10 (((H.take k).filter (kU s P)).map aJ) (.own 2)),(4,.int 0),(11,.fn (.func 46) [] [.iptr (bt P),.iptr (bG r s (.sl 4 (l.map encS) .no) sc)]),(68,.sl 10 (H.map aJ) .no),(69,.int H.length),(70,.int k)]) (fun k=>[.dead,.dead,.own 10 (((H.take k).filter (kU s P)).map aJ).length])
    (fun k=>k≤H.length) (fun k=>H.length - k) 3 (fun _=>rfl) 0 (nZl _) ⟨rfl,rfl,rfl,rfl,rfl,rfl,rfl,tI⟩ rfl (fun _ _=>rfl) (fun _ _=>rfl) ?_
   intro j hj;clear hp hm hca hsh;by_cases hlt:j<H.length
   · obtain⟨m,hmj⟩:∃m,H.getD j default=m:=⟨_,rfl⟩
     have hst:=Gv (p:=kU s P) hlt hmj;have hc2:=hf2 m (hH m (by rw[←hmj];exact bT hlt));have hfl:(((H.take j).filter (kU s P)).map aJ).length≤20000:=by
      rw[lLm];exact zBu (zBm _ _) (by rw[zAg];omega)
     cases hb2:kU s P m with
     | true =>
       rw[show((bp m P s.who).2==0&&(bp m P s.who).1)=true from hb2] at hc2;rw[hb2,if_pos rfl] at hst;have Af:(((H.take j).filter (kU s P)).map aJ)++[aJ m]=((H.take (j+1)).filter (kU s P)).map aJ:=by rw[hst,zAz];rfl
       generalize ((H.take j).filter (kU s P)).map aJ=A at *
       repeat' (first|refine qP ?_ (h:=fun hg=>by first|exact iX aJ H ((j:Nat):Int) hmj (hb:=oM)|exact ae|exact pc hc2|exact pbS ab rfl rfl nds|fail)|apply sqW|refine rgK fun U V=>?_|(refine aN V ?_;clear V U)|refine aS ?_|refine aA ?_|refine aoE (apO ab rfl rfl rfl dCd (Rd.w rfl tI) rfl (Rd.w rfl tI) (.sl rfl (by first|(intro x hx;rcases zA9.1 hx with rfl;rfl)|exact one_by8 _|exact one_ints _)) (lkG rfl) (lkG rfl) rfl rfl (by simp only[lLm,lLa,zAc,zAi];omega) (by simp only[lLm,lLa,zAc,zAi];omega) ?_)|refine cX ?_ ?_<;>intro hc<;>try simp only[dE] at hc|refine blK ?_|refine exW ?_|refine skW ?_|refine rtW ?_)
       all_goals (first|exact dd|skip)
       refine⟨j+1,hlt,oM,⟨rfl,?_,rfl,rfl,rfl,rfl,rfl,tI⟩,?_⟩
       · rw[←Af];rfl
       · rw[←Af];rfl
     | false =>
       rw[show((bp m P s.who).2==0&&(bp m P s.who).1)=false from hb2] at hc2;rw[hb2,if_neg dCd,zCc] at hst
       repeat' (first|refine qP ?_ (h:=fun hg=>by first|exact iX aJ H ((j:Nat):Int) hmj (hb:=oM)|exact ae|exact pc hc2|exact pbS ab rfl rfl nds|fail)|apply sqW|refine rgK fun U V=>?_|(refine aN V ?_;clear V U)|refine aS ?_|refine aA ?_|refine cX ?_ ?_<;>intro hc<;>try simp only[dE] at hc|refine blK ?_|refine exW ?_|refine skW ?_|refine rtW ?_)
       all_goals (first|exact dd|skip)
       refine⟨j+1,hlt,oM,⟨rfl,?_,rfl,rfl,rfl,rfl,rfl,tI⟩,?_⟩
       · rw[hst];rfl
       · rw[hst];rfl
   · obtain rfl:j=H.length:=oM;rw[zB2]
     repeat' (first|refine qT ?_|apply sqW|refine rgK fun U V=>?_|(refine aN V ?_;clear V U)|refine aS ?_|refine aA ?_|refine cX ?_ ?_<;>intro hc<;>try simp only[dE] at hc|refine blK ?_|refine exW ?_|refine skW ?_|refine rtW ?_)
     all_goals (first|exact dd|skip)
     exact⟨.inr rfl,_,rfl,Ent.of rfl⟩
theorem Ec (ws:List ba) (ds:List Dec) (s:Std) (time:Int) (hl:ws.length≤1000000000) (hws:∀w∈ws,WIn w) (hd:ds.length≤1000000000) (ht:Txt s.evs) (hle:s.evs.length≤1000000000) (h0:dS ws ds s time≠0) :
 PCall Tryz.prog 19 [.sl 12 (ws.map bb) .no,.sl 6 (ds.map bu) .no,.agg (fH s),.int time] (.tup [.agg zFc,.int (dS ws ds s time)]):=by
 have hv:=dy s ht hle;have ha:=oG ws ds hl hws hd s.known time;unfold dS at h0 ⊢;cases hvs:jC s with
 | false =>
   rw[hvs] at hv;rw[if_pos rfl];clear ha;refine PCall.bO ab Tryz.func19 rfl rfl Tryz.ntmps19 rfl ?_
   repeat' (first|refine qP ?_ (h:=fun hg=>by first|exact ae|exact pc hv|exact pbD ab rfl rfl nds|fail)|apply sqW|refine rgK fun U V=>?_|(refine aN V ?_;clear V U)|refine aB ?_|refine aS ?_|refine aA ?_|refine cX ?_ ?_<;>intro hc<;>try simp only[dE] at hc|refine skW ?_|refine rtW ?_)
   · exact⟨.inr rfl,_,rfl,Ent.of rfl⟩
   all_goals (exfalso;simp at hc;done)
 | true =>
   rw[hvs] at hv h0;rw[if_neg dCd] at h0 ⊢;by_cases he:(atR ws ds s.known time).2≠0
   · rw[if_pos he];generalize (atR ws ds s.known time).2=e at *;generalize (atR ws ds s.known time).1=r at *;refine PCall.bO ab Tryz.func19 rfl rfl Tryz.ntmps19 rfl ?_
     repeat' (first|refine qP ?_ (h:=fun hg=>by first|exact ae|exact pc hv|exact pc ha|exact pbD ab rfl rfl nds|exact ah)|apply sqW|refine rgK fun U V=>?_|(refine aN V ?_;clear V U)|refine aB ?_|refine aS ?_|refine aA ?_|refine cX ?_ ?_<;>intro hc<;>try simp only[dE] at hc|refine blK ?_|refine skW ?_|refine rtW ?_)
     · exfalso;simp at hc;done
     · exact⟨.inr rfl,_,rfl,Ent.of rfl⟩
     all_goals (exfalso;simp at hc;omega)
   · rw[if_neg he] at h0 ⊢;have ha0:(atR ws ds s.known time).2=0:=oM;rw[ha0] at ha;generalize (atR ws ds s.known time).1=r at *;have j9:(ws.all fun w=>aQ w.score)=false:=by
      cases h:(ws.all fun w=>aQ w.score) with
      |false=>rfl
      |true=>rw[h,if_pos rfl] at h0;exact absurd rfl h0
     rw[if_neg (by rw[j9];decide)];have Dx:∃j,j<ws.length∧aQ (ws.getD j default).score=false:=by
      rw[zE0] at j9;obtain⟨w,hw,h9⟩:=j9;obtain⟨j,hj,rfl⟩:=zB9.1 hw;exact⟨j,hj,by rw[aU hj];simpa using h9⟩
     clear j9 h0 he;refine PCall.bO ab Tryz.func19 rfl rfl Tryz.ntmps19 rfl ?_
     repeat' (first|refine qP ?_ (h:=fun hg=>by first|exact ae|exact pc hv|exact pc ha|exact pbD ab rfl rfl nds|exact ah)|apply sqW|refine rgK fun U V=>?_|(refine aN V ?_;clear V U)|refine aB ?_|refine aS ?_|refine aA ?_|refine cX ?_ ?_<;>intro hc<;>try simp only[dE] at hc|refine blK ?_|refine skW ?_|refine rtW ?_)
     all_goals (first|(exfalso;simp at hc;done)|skip)
     refine AWP.j5 (v:=3) (i:=16) (sz:=4) rfl rfl ?_
     refine lpD (ι:=Nat) (fun k=>[(0,.sl 12 (ws.map bb) .no),(6,.ptr 0 0),(8,.ptr 1 0),(12,.ptr 3 0),(35,.sl 12 (ws.map bb) .no),(36,.int ws.length),(37,.int k)]) (fun k=>FcS r s ((aH (ws.take k)).map encS) ((aH (ws.take k)).map encS).length)
      (fun k=>k≤ws.length∧∀j,j<k→aQ (ws.getD j default).score=true) (fun k=>ws.length - k) 5 (fun _=>rfl) 0 ⟨nZl _,fun j h=>absurd h (zEa _)⟩ ⟨rfl,rfl,rfl,rfl,rfl,rfl,rfl,tI⟩ rfl (fun _ _=>rfl) (fun _ _=>rfl) ?_
     rintro k ⟨hk,aT⟩;have hlt:k<ws.length:=by
      obtain⟨j,hj,h9⟩:=Dx;rcases nLg j k with h|h
      · rw[aT j h] at h9;cases h9
      · omega
     obtain⟨w,hw⟩:∃w,ws.getD k default=w:=⟨_,rfl⟩
     have hst:=qk hlt hw;have hm:w∈ws:=by rw[←hw];exact bT hlt
     have hvw:=_root_.Go.Proofs.YtmjdoencpjpegaaGreatDoor.dy w.score (hws w hm).score;have hlen:((aH (ws.take k)).map encS).length=k:=by simp;omega
     generalize (aH (ws.take k)).map encS=A at *;cases hgo:aQ w.score with
     | false =>
       rw[hgo] at hvw
       repeat' (first|refine qP ?_ (h:=fun hg=>by first|exact iX bb ws ((k:Nat):Int) hw (hb:=oM)|exact ae|exact pc hvw|exact pbD ab rfl rfl nds|fail)|apply sqW|refine rgK fun U V=>?_|(refine aN V ?_;clear V U)|refine aS ?_|refine aA ?_|refine cX ?_ ?_<;>intro hc<;>try simp only[dE] at hc|refine blK ?_|refine exW ?_|refine skW ?_|refine rtW ?_)
       all_goals (first|exact dd|skip)
       exact⟨.inr rfl,_,rfl,Ent.of rfl⟩
     | true =>
       rw[hgo] at hvw
       repeat' (first|refine qP ?_ (h:=fun hg=>by first|exact iX bb ws ((k:Nat):Int) hw (hb:=oM)|exact ae|exact pc hvw|exact pbS ab rfl rfl nds|exact pbD ab rfl rfl nds|fail)|apply sqW|refine rgK fun U V=>?_|(refine aN V ?_;clear V U)|refine aS ?_|refine aA ?_|refine aoE (apO ab rfl rfl rfl dCd (Rd.w rfl tI) rfl (Rd.w rfl tI) (.sl rfl (by first|(intro x hx;rcases zA9.1 hx with rfl;rfl)|exact one_by8 _|exact one_ints _)) (lkG rfl) (lkG rfl) rfl rfl (by simp only[lLm,lLa,zAc,zAi];omega) (by simp only[lLm,lLa,zAc,zAi];omega) ?_)|refine cX ?_ ?_<;>intro hc<;>try simp only[dE] at hc|refine blK ?_|refine exW ?_|refine skW ?_|refine rtW ?_)
       all_goals (first|exact dd|skip)
       refine⟨k+1,⟨hlt,fun j hj=>?_⟩,oM,⟨rfl,rfl,rfl,rfl,rfl,rfl,rfl,tI⟩,?_⟩
       · by_cases h:j<k
         · exact aT j h
         · obtain rfl:j=k:=oM;rw[hw];exact hgo
       · rw[←hst];rfl
theorem vJ:∀{ws:List ba} {last:Int},fV last ws=true→∀k,k+1<ws.length→(ws.getD k default).score.version<(ws.getD (k+1) default).score.version
 |[],_,_,k,hk=>by simp at hk
 |[x],_,_,k,hk=>by simp at hk
 | x :: y :: l, last, h, k, hk => by
   unfold fV at h;rw[zA0] at h;cases k with
   | zero =>
     have h2:=h.2;unfold fV lY at h2;simp only[zA0,zB1,zAl,dEf] at h2;show x.score.version<y.score.version;omega
   |succ k=>exact vJ (ws:=y::l) h.2 k (by simpa using hk)
theorem Ee {ws:List ba} (h:cr ws=true) (hg:∀w∈ws,aQ w.score=true):cW (aH ws)=true:=by
 unfold cr at h;simp only[zA0,dEt] at h;unfold cW;simp only[zA0,dEt,zA6,zBk,lLm];refine⟨⟨oM,oM⟩,fun k hk=>?_⟩;have e:∀j,j<ws.length→atS (aH ws) j=(ws.getD j default).score:=fun j hj=>by
  unfold atS;rw[aU (by simpa using hj),aU hj];simp
 unfold kR;rw[e k hk,hg _ (bT hk),zBw];cases k with
 |zero=>rfl
 | succ k =>
   rw[Nat.add_sub_cancel,e k oM,decide_eq_true (vJ h.1 k hk),Bool.or_true]
theorem ua {ws:List ba} {ds:List Dec} {s:Std} {time:Int} (h0:dS ws ds s time=0) (hf:∀w∈ws,dt w.score=true):∃k sc,GF (atR ws ds s.known time).1 s (aH ws) k sc∧(atR ws ds s.known time).2=0:=by
 have hvs:jC s=true:=by
  cases h:jC s with
  |true=>rfl
  |false=>unfold dS at h0;rw[h] at h0;cases h0
 unfold dS at h0;rw[hvs,if_neg dCd] at h0;have ha0:(atR ws ds s.known time).2=0:=by
  by_cases h:(atR ws ds s.known time).2≠0
  · rw[if_pos h] at h0;exact absurd h0 h
  · omega
 rw[ha0,if_neg dCd] at h0;have aT:∀w∈ws,aQ w.score=true:=by
  cases h:(ws.all fun w=>aQ w.score) with
  |true=>exact zA6.1 h
  |false=>rw[h] at h0;cases h0
 obtain⟨hr,hwo⟩:=Nh ha0;have hv:=Ee hwo aT;obtain⟨w,hw,hver,_⟩:=hr.work;obtain⟨k,hk,rfl⟩:=zB9.1 hw;have hkl:k<(aH ws).length:=by simpa using hk
 have hat:atS (aH ws) k=ws[k].score:=by unfold atS;rw[aU hkl];simp
 have hlen:ws.length≤100:=by
  unfold cr at hwo;simp only[zA0,dEt] at hwo;exact hwo.2.2
 unfold jC at hvs;simp only[zA0] at hvs;have hev:=hvs.1.2.1;refine⟨k,ws[k].score,⟨hv,hkl,hat,aT _ hw,fun x hx=>?_,fun x hx=>?_,by simp;omega,hver.symm,hvs.1.1.1.2,hev,by have:=(fl.1 hev).2.2;omega,Txt.of (fl.1 hev).1⟩,ha0⟩
 · obtain⟨y,hy,rfl⟩:=zAf.1 hx;exact aT y hy
 · obtain⟨y,hy,rfl⟩:=zAf.1 hx;exact hf y hy
theorem IV (ws:List ba) (ds:List Dec) (s:Std) (time:Int) (hl:ws.length≤1000000000) (hws:∀w∈ws,WIn w) (hd:ds.length≤1000000000) (ht:Txt s.evs) (hle:s.evs.length≤1000000000) (h0:dS ws ds s time≠0) :
 PCall Tryz.prog 7 [.sl 12 (ws.map bb) .no,.sl 6 (ds.map bu) .no,.agg (fH s),.int time] (rV (([],[]),dS ws ds s time)):=by
 have h:=Ec ws ds s time hl hws hd ht hle h0;generalize dS ws ds s time=e at *;refine PCall.bO ab Tryz.func7 rfl rfl Tryz.ntmps7 rfl ?_
 repeat' (first|refine qP ?_ (h:=fun hg=>by first|exact ae|exact pc h|fail)|apply sqW|refine rgK fun U V=>?_|(refine aN V ?_;clear V U)|refine aB ?_|refine aS ?_|refine aA ?_|refine cX ?_ ?_<;>intro hc<;>try simp only[dE] at hc|refine skW ?_|refine rtW ?_)
 · exact⟨.inr rfl,_,rfl,vF e⟩
 all_goals (exfalso;simp at hc;omega)
theorem rZ (ws:List ba) (ds:List Dec) (s:Std) (time:Int) (hl:ws.length≤1000000000) (hws:∀w∈ws,WIn w) (hd:ds.length≤1000000000) (ht:Txt s.evs) (hle:s.evs.length≤1000000000) (h0:dS ws ds s time=0) {k:Nat} {sc:Score} (G:GF (atR ws ds s.known time).1 s (aH ws) k sc) :
 PCall Tryz.prog 7 [.sl 12 (ws.map bb) .no,.sl 6 (ds.map bu) .no,.agg (fH s),.int time] (rV (ib s (aH ws) sc)):=by
 have h:=Ea ws ds s time hl hws hd ht hle h0 G.fv G.at_;have hf:=Eb G;generalize ib s (aH ws) sc=R at *;generalize (atR ws ds s.known time).1=r at *;refine PCall.bO ab Tryz.func7 rfl rfl Tryz.ntmps7 rfl ?_
 repeat' (first|refine qP ?_ (h:=fun hg=>by first|exact ae|exact pc h|exact pc hf|fail)|apply sqW|refine rgK fun U V=>?_|(refine aN V ?_;clear V U)|refine aB ?_|refine aS ?_|refine aA ?_|refine cX ?_ ?_<;>intro hc<;>try simp only[dE] at hc|refine skW ?_|refine rtW ?_)
 · exfalso;simp at hc;done
 exact⟨.inr rfl,_,rfl,Ent.of rfl⟩
end Go.Proofs.YtmjdoencpjpegaaGreatDoor.Top
namespace Go.Ab
theorem TCall.nil2 {P:Program} {f:FuncId} {a:AV} {sz:Nat} {σ:aa} {Q:AV→aa→Prop} (h:TCall P f [a,.sl sz [] .no] σ Q):TCall P f [a,.nils] σ Q:=by
 refine⟨h.1,fun G w vs hs ha=>h.2 G w vs hs ⟨ha.1,fun i c hc=>?_⟩⟩
 match i,hc with
 |0,hc=>exact ha.2 0 c hc
 | 1, hc =>
   cases hc;have:=ha.2 1 _ rfl;generalize vs.getD 1 undef=x at this ⊢;cases this;exact .slz sz .no trivial
theorem TCall.nil1 {P:Program} {f:FuncId} {sz:Nat} {σ:aa} {Q:AV→aa→Prop} (h:TCall P f [.sl sz [] .no] σ Q):TCall P f [.nils] σ Q:=by
 refine⟨h.1,fun G w vs hs ha=>h.2 G w vs hs ⟨ha.1,fun i c hc=>?_⟩⟩
 match i,hc with
 | 0, hc =>
   cases hc;have:=ha.2 0 _ rfl;generalize vs.getD 0 undef=x at this ⊢;cases this;exact .slz sz .no trivial
end Go.Ab
namespace Go.Proofs.YtmjdoencpjpegaaGreatDoor.Top
open Go.Ab Go.Jo Go.Sy Go.Sort Go.Pl Al Mk Cy De Pl
attribute [local irreducible] AWP AOps EStep AQ PStep PRun PCall TCall VCall
def d14:Dec:=⟨1,10,1,2,0,0⟩
abbrev w14:List ba:=[rW1,rW2]
theorem vK:∀w∈w14,WIn w:=fun w hw=>by
 rcases zAw.1 hw with rfl|hw
 · exact⟨⟨by decide,by decide,by decide⟩,by decide,by decide,by decide⟩
 · rw[zA9.1 hw];exact⟨⟨by decide,by decide,by decide⟩,by decide,by decide,by decide⟩
theorem Gw (l:List Dec):∀x∈l.map bu,x.all fb=true:=fun x hx=>by
 obtain⟨c,_,rfl⟩:=zAf.1 hx;rfl
theorem Gx {o0 o1 o2 o3 o4:aF} (ho:∀o∈[o0,o1,o2,o3,o4],OkA o):TCall Tryz.prog 35 [.sl 6 (([]:List Dec).map bu) .no] [o0,o1,o2,o3,o4]
 (fun r s=>r=.sl 6 [] .fresh∧s=[o0,o1,o2,o3,o4]):=by
 have hok:([o0,o1,o2,o3,o4]:aa).all (ak 5)=true:=mA ho 5;refine TCall.body Tryz.func35 rfl rfl Tryz.ntmps35 rfl rfl ?_
 repeat' (first|refine qS ?_|apply sqW|refine rgK fun U V=>?_|(refine aN V ?_;clear V U)|refine aoE (EStep.kC ab rfl rfl rfl rfl rfl tI rfl ?_))
 intro b hb
 repeat' (first|refine qP ?_ (h:=fun hg=>by first|exact PRun.fD ab rfl rfl|exact ae|fail)|apply sqW|refine rgK fun U V=>?_|(refine aN V ?_;clear V U)|refine aoE (EStep.wa ab rfl rfl rfl dCd (Rd.w rfl tI) (Rd.w rfl tI) (.sl rfl (Gw [])) (lkG rfl) (lkG rfl) rfl ?_)|refine cX ?_ ?_<;>intro hc<;>try simp only[dE] at hc|refine skW ?_)
 · refine AWP.tK 2 6 rfl ?_;exact rtW ⟨.inr rfl,.sl 6 [] .fresh,[o0,o1,o2,o3,o4],⟨rfl,rfl⟩,rfl,nLr _,hok,rfl,rfl⟩
 · exact rtW ⟨.inr rfl,.sl 6 [] .fresh,[o0,o1,o2,o3,o4],⟨rfl,rfl⟩,rfl,nLr _,hok,rfl,rfl⟩
def Nz (o:Oper):Bool:=o.dst==some 70||o.dst==some 73
def R14:Room:=bZ w14
theorem Br:PCall Tryz.prog 14 [.sl 12 (w14.map bb) .no,.nils,.agg (bu d14)] (.tup [.sl 6 ([d14].map bu) .no,.int 0]):=by
 have o0:OkA (.var (bu d14)):=fun m=>rfl
 have okd:OkA .dead:=fun m=>rfl
 have ot:OkA (.var [.b true]):=fun m=>rfl
 have aT:=TCall.val (first:=[]) (aM:=[]) (avs:=[.sl 12 (w14.map bb) .no,.nils]) (TCall.nil2 (JE o0 w14 dCd vK [] dCd));have hg:kQ w14 []=true:=dKn;have bg:fO w14 (([]:List Dec).length:Int) 1000000000 [] (bZ w14)=(R14,true):=rfl;have iw:gk w14 R14:=tW dKn;have hdo:=TCall.val (first:=[]) (aM:=[]) (avs:=[.ptr 3 0,.agg (bu d14)]) (do_T o0 okd ot w14 dCd vK R14 iw d14);have he:(doR w14 R14 d14).2=0:=dKn;rw[he] at hdo;generalize (doR w14 R14 d14).1=R2 at *;have ht:=oB 10;have JG:∀rv s,rU (.var (bu d14)) w14 [] rv s→rv=.tup [.ptr 3 0,.b true]∧s=[.var (bu d14),.var [.ptr 3 0],.var [.b true],.var (stC w14 R14)]:=fun rv s h=>by
  unfold rU at h;rw[hg,if_pos rfl,bg] at h;exact h
 have NA:=VCall.mono aT JG;clear aT JG;generalize w14=ws at *;generalize R14=R at *;refine PCall.bO ab Tryz.func14 rfl rfl Tryz.ntmps14 rfl ?_
 repeat' (first|refine qS ?_|apply sqW|refine rgK fun U V=>?_|(refine aN V ?_;clear V U)|refine aB ?_|refine aoE (scT (NA) rfl rfl rfl rfl rfl nd rfl rfl nds ?_))
 rintro _ _ ⟨rfl,rfl⟩
 repeat' (first|(refine aN V ?_;clear V U)|refine qS ?_)
 refine AWP.kill 1 rfl ?_;have oR:OkA (.var (stC ws R2)):=eO ws R2;have hcl:=TCall.val (first:=[]) (aM:=[]) (avs:=[.nils]) (TCall.nil1 (Gx (o0:=.var (bu d14)) (o1:=.dead) (o2:=.var [.b true]) (o3:=.var (stC ws R2)) (o4:=.own 6 0) (fun o ho=>by
  simp only[zAw,zCm,or_false] at ho;rcases ho with rfl|rfl|rfl|rfl|rfl
  · exact o0
  · exact okd
  · exact ot
  · exact oR
  · exact fun m=>rfl)))
 repeat' (first|refine qP ?_ (h:=fun hg=>by first|exact ae|exact pc ht|fail)|apply sqW|refine rgK fun U V=>?_|(refine aN V ?_;clear V U)|refine aoE (scT (hdo) rfl rfl rfl rfl rfl nd rfl rfl nds ?_)|refine cX ?_ ?_<;>intro hc<;>try simp only[dE] at hc|refine blK ?_|refine skW ?_|refine rtW ?_|refine kD fun U V=>?_|(refine aqN (V _ ?_);clear V U)|refine aqQ rfl rfl (fun hg=>by first|exact ae|exact(Bool.noConfusion (show false=true from hg):PRun _ _ _ _ (.iptr (bu d14)))|fail) (by exact rfl) ?_)
 all_goals first|(exfalso;exact absurd hc dCd)|skip
 rintro _ _ ⟨rfl,rfl⟩
 repeat' (first|refine qS ?_|apply sqW|refine rgK fun U V=>?_|(refine aN V ?_;clear V U)|refine cX ?_ ?_<;>intro hc<;>try simp only[dE] at hc|refine skW ?_|refine rtW ?_)
 all_goals first|(exfalso;exact absurd hc dCd)|skip
 refine AWP.oS 6 ?_;refine AWP.gj Nz (fun j=>match j with|0=>[.var (bu d14),.dead,.var [.b true],.var (stC ws R2),.own 6 0]|1=>[.var (bu d14),.dead,.var [.b true],.var (stC ws R2),.own 6 0]|_=>[.var (bu d14),.dead,.var [.b true],.var (stC ws R2),.own 6 1]) rfl (by kernel_rfl) dKn rfl dKn (fun U V=>?_)
 repeat' (first
  |refine yt (h:=by refine⟨?_,?_,?_,?_⟩<;>intro hh hg<;>first|exact absurd hh dKn|exact ae|exact pbS ab rfl rfl nds|exact ah|fail) (hk:=?_)|fail)
 refine YQ.e (v:=.sl 6 [] .fresh) (d:=some 70) rfl rfl rfl ?_ ?_
 · intro au he;refine scT hcl rfl rfl rfl rfl rfl tI rfl (by simp only[rds,ai (he 69 dKn)];rfl) ⟨(by rw[aj (he 69 dKn)];first|exact tI|exact rfl),tI⟩ ?_;rintro r s ⟨rfl,rfl⟩;exact⟨rfl,rfl⟩
 repeat' (first
  |refine yt (h:=by refine⟨?_,?_,?_,?_⟩<;>intro hh hg<;>first|exact absurd hh dKn|exact ae|exact pbS ab rfl rfl nds|exact ah|fail) (hk:=?_)|fail)
 refine YQ.e (v:=.sl 6 [bu d14] (.own 4)) (d:=some 73) rfl rfl rfl ?_ ?_
 · intro au he;exact EStep.tB (l:=4) ab rfl rfl rfl dCd (Rd.w ((ai (he 70 dKn)).trans rfl) (by rw[aj (he 70 dKn)];first|exact tI|exact rfl)) rfl (Rd.w ((ai (he 72 dKn)).trans rfl) (by rw[aj (he 72 dKn)];first|exact tI|exact rfl)) (.sl rfl (by intro x hx;rcases zA9.1 hx with rfl;rfl)) dCd (lkG rfl) (lkG rfl) rfl rfl dCd dCd ⟨rfl,rfl⟩
 repeat' (first
  |refine yt (hk:=?_)|fail)
 refine YQ.nil (V _ _ ?_);clear V U
 repeat' (first|refine rtW ?_)
 exact⟨.inr rfl,_,rfl,Ent.of rfl⟩
end Go.Proofs.YtmjdoencpjpegaaGreatDoor.Top
